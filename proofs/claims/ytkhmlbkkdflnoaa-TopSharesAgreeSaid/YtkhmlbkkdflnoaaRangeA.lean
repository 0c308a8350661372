/-
  A RANGE OVER A FUNCTION WHOSE LOOP VARIABLES LIE IN MEMORY: the assignment at the head of a round makes memory. The caller has one invariant between the rounds (I) and another behind the assignment (Ia).
-/
import Derived.Test.YtkhmlbkkdflnoaaRows
import Derived.RangeFuncNested
import Derived.RangeFuncBound
import Derived.RangeFuncCalls
import Derived.RangeFuncLeaves
import Derived.WalkKit
namespace Go.Proofs.Ytkhmlbkkdflnoaa
open Go.RowKit

section
variable {F : Fence} {n : Nat} {P : Program}
theorem wpIn_rangeA {α : Type} {g : Operand} {ps : Array Tmp} {assign body : Code} {Q : Exit → Act → World → Prop} {a : Act} {w : World}
    (hro : F.round = none) (h1 : 1 ≤ n) {gf : Nat} {lb : Array Value} (hg : a.eval g = .func (.func gf) #[] lb) (hFg : F.fn gf) (eg : ∀ args w, (callFunc gf args).run P w = .ok (.enter gf args) w)
    {encs : α → Array Value} {Kp : World → World → Prop} {S Sp : List α → Prop} {N : Nat} {w0 : World} (hseq : SeqStopsK F (n - 1) P gf lb encs Kp S Sp N w0)
    (hKt : ∀ {A B C : World}, Kp A B → Kp B C → Kp A C) (hKb : ∀ (W : World) (l : Nat) (o o' : Obj), w.heap.size ≤ l → W.heap[l]? = some o → o.isCells = false → o.isWalk = false → Kp W (W.putObj l o')) (hb0 : Below w0.heap.size w0 w) (hps : ∀ x, (encs x).size = ps.size)
    (I : List α → World → Prop) (Ia : List α → α → Act → World → Prop) (Ix : Code → List α → World → Prop) (hI : OwnFrom w.heap.size I) (hIa : ∀ x a2, OwnFrom w.heap.size (fun pre => Ia pre x a2)) (hIx : ∀ c, OwnFrom w.heap.size (Ix c)) (h0 : I [] w)
    (hassign : ∀ (l : Nat) (pre : List α) (x : α) (W : World), I pre W → pre.length < N →
      assign.wpIn (F.inRound l) (n - 1 - 1) P (Exit.then (fun a2 W2 => KeepsOthers W W2 ∧ Kp W W2 ∧ Ia pre x a2 W2) (fun _ _ _ => False)) { tmps := (ps.zip (encs x)).foldl (fun t (p, v) => t.setIfInBounds p v) a.tmps, defers := [] } W)
    (hbody : ∀ (l : Nat) (pre : List α) (x : α) (a2 : Act) (W : World), Ia pre x a2 W → pre.length < N → body.wpIn (F.inRound l) (n - 1 - 1) P (ownPostK Kp I Ix (pre ++ [x]) W) a2 W)
    (hdone : ∀ (D : Nat) (xs : List α) (W : World), w.heap.size ≤ D → S xs → I xs W → W.heap[D]? = some (.deferred (some [])) → Q .normal { a with defers := { target := .collected D, args := #[] } :: a.defers } W)
    (hstop : ∀ (D : Nat) (c : Code) (pre : List α) (W : World), w.heap.size ≤ D → Sp pre → Ix c pre W → W.heap[D]? = some (.deferred (some [])) → c.wpIn F n P Q { a with defers := { target := .collected D, args := #[] } :: a.defers } W) :
    (Code.rangeFunc g ps assign body).wpIn F n P Q a w := by
  refine wpIn_rangeFunc fun fn hfn => ?_
  rw [hro]
  obtain ⟨rec, hrec⟩ : ∃ rec : LoopState → Option Code → Loop, rec = fun st pe => { state := st, pending := pe, fn, tmps := a.tmps, params := ps, assign, body, defers := w.heap.size } := ⟨_, rfl⟩
  obtain ⟨W1, hW1⟩ : ∃ W1, (w.alloc (.deferred (some []))).alloc (.loop (rec .ready none)) = W1 := ⟨_, rfl⟩
  have eL : W1.heap[w.heap.size + 1]? = some (.loop (rec .ready none)) := by
    rw [← hW1]
    have q := World.alloc_heap_new (w.alloc (.deferred (some []))) (.loop (rec .ready none))
    rwa [World.size_alloc] at q
  have eD : W1.heap[w.heap.size]? = some (.deferred (some [])) := by
    rw [← hW1]
    exact (Below.heap_alloc _ _ _ (by simp)).trans (World.alloc_heap_new w _)
  have eI : I [] W1 := by rw [← hW1]; exact hI.alloc _ (hI.alloc _ h0)
  have eB : Below w0.heap.size w0 W1 := by
    rw [← hW1]
    exact hb0.trans ((((Below.refl _ w).alloc (Nat.le_refl _) _).alloc (by simp) _).mono hb0.size)
  refine ⟨w.heap.size + 1, [{ target := .collected w.heap.size, args := #[] }], W1, { target := .fn (.func gf) lb, args := #[.func (.yield (w.heap.size + 1)) #[] #[]] }, W1, gf,
    #[.func (.yield (w.heap.size + 1)) #[] #[]] ++ lb, W1, ?_, ?_, ?_, ?_, fun _ => h1, ?_⟩
  · rw [← hW1, hrec]; exact run_enterLoop_outer _ _ _ _ _
  · simp only [resolve, hg]; simp [go_sem]
  · intro f' hf'; simp [Target.leads] at hf'; subst hf'; exact hFg
  · simp [invoke, go_sem, eg]
  · have hnw : ∀ {A B : World} {row : Option Nat}, (∀ r, row = some r → W1.heap.size ≤ r ∧ ∃ o : Obj, A.heap[r]? = some o ∧ o.isWalk = true) → (∀ r, row = some r → w.heap.size ≤ r ∧ ∃ o : Obj, A.heap[r]? = some o ∧ o.isCells = false) :=
      fun hr r e => by obtain ⟨hB, o, ho, hw⟩ := hr r e; exact ⟨by rw [← hW1] at hB; simp at hB; omega, o, ho, Obj.not_cells_of_walk hw⟩
    refine (hseq (w.heap.size + 1)
      (fun pre W => I pre W ∧ W.heap[w.heap.size + 1]? = some (.loop (rec .ready none)) ∧ W.heap[w.heap.size]? = some (.deferred (some [])))
      (fun pre W => ∃ c, Ix c pre W ∧ W.heap[w.heap.size + 1]? = some (.loop (rec .done (some c))) ∧ W.heap[w.heap.size]? = some (.deferred (some [])))
      W1 eB
      (fun s A B row hs hg' hr => ⟨hI s A B row hs.1 hg' (hnw (B := B) hr), (grownBy_keeps hg' (fun r e => (hr r e).2) hs.2.1 rfl).trans hs.2.1, (grownBy_keeps hg' (fun r e => (hr r e).2) hs.2.2 rfl).trans hs.2.2⟩)
      (fun s A B row hs hg' hr => by
        obtain ⟨c, hc, hl, hk⟩ := hs
        exact ⟨c, hIx c s A B row hc hg' (hnw (B := B) hr), (grownBy_keeps hg' (fun r e => (hr r e).2) hl rfl).trans hl, (grownBy_keeps hg' (fun r e => (hr r e).2) hk rfl).trans hk⟩)
      ?_ ⟨eI, eL, eD⟩).mono ?_
    · -- a round: the record goes busy, the body runs, the record is given back
      rintro pre x W ⟨hi, hl, hd⟩ hlen
      have hlt : w.heap.size + 1 < W.heap.size := (Array.getElem?_eq_some_iff.1 hl).1
      have hy := run_yield (P := P) (args := encs x) hl (by rw [hrec]; exact hps x)
      rw [hrec] at hy
      refine ⟨fn, _, assign, body, hy, roundIn_of_wpIn hfn (wpIn_mono (hassign _ pre x W hi hlen) ?_)⟩
      intro e0 a2 W2 h2
      cases e0 with
      | ret => exact h2.elim
      | exit id => exact h2.elim
      | goto t => exact h2.elim
      | panic ch => exact h2.elim
      | outgrown => exact h2.elim
      | normal =>
      obtain ⟨hko, hkp0, hia⟩ := h2
      have hl := hko.same _ _ hl rfl
      have hd := hko.same _ _ hd rfl
      have hlt : w.heap.size + 1 < W2.heap.size := (Array.getElem?_eq_some_iff.1 hl).1
      refine ⟨_, run_beginRound hl (by rw [hrec]), ?_⟩
      obtain ⟨V, hV⟩ : ∃ V, W2.putObj (w.heap.size + 1) (.loop { rec .ready none with state := .busy }) = V := ⟨_, rfl⟩
      have vL : V.heap[w.heap.size + 1]? = some (.loop { rec .ready none with state := .busy }) := by rw [← hV]; exact World.putObj_heap_same hlt
      have vD : V.heap[w.heap.size]? = some (.deferred (some [])) := by rw [← hV]; exact (World.putObj_heap_other (by omega)).trans hd
      have vK : Kp W V := by rw [← hV]; exact hKt hkp0 (hKb _ _ _ _ (by omega) hl rfl rfl)
      have vI : Ia pre x a2 V := by rw [← hV]; exact (hIa x a2).putObj _ hia (by omega) hl rfl
      rw [hV]
      refine wpIn_mono (hbody _ pre x a2 V vI hlen) ?_
      have back : ∀ (jump : Option Code) (U : World), KeepsOthers V U →
          (Instr.endRound (w.heap.size + 1) jump).run P U = .ok (.bool jump.isNone) (U.putObj (w.heap.size + 1) (.loop (rec (if jump.isNone then .ready else .done) jump))) ∧
          U.heap[w.heap.size + 1]? = some (.loop { rec .ready none with state := .busy }) ∧
          (U.putObj (w.heap.size + 1) (.loop (rec (if jump.isNone then .ready else .done) jump))).heap[w.heap.size + 1]? = some (.loop (rec (if jump.isNone then .ready else .done) jump)) ∧
          (U.putObj (w.heap.size + 1) (.loop (rec (if jump.isNone then .ready else .done) jump))).heap[w.heap.size]? = some (.deferred (some [])) := by
        intro jump U hk
        have uL := hk.same _ _ vL rfl
        have q := run_endRound (P := P) jump uL
        rw [hrec] at q ⊢
        exact ⟨q, by rw [hrec] at uL; exact uL, World.putObj_heap_same (Array.getElem?_eq_some_iff.1 uL).1, (World.putObj_heap_other (by omega)).trans (hk.same _ _ vD rfl)⟩
      intro e a3 U hp
      cases e with
      | normal =>
        obtain ⟨hk, hkp, hi3⟩ := hp
        obtain ⟨q1, q2, q3, q4⟩ := back none U hk
        exact ⟨_, _, q1, .inl ⟨rfl, ⟨hI.putObj _ hi3 (by omega) q2 rfl, q3, q4⟩, hKt (hKt vK hkp) (hKb _ _ _ _ (by omega) q2 rfl rfl)⟩⟩
      | ret =>
        obtain ⟨q1, q2, q3, q4⟩ := back (some .ret) U hp.1
        exact ⟨_, _, q1, .inr ⟨rfl, .ret, (hIx _).putObj _ hp.2 (by omega) q2 rfl, q3, q4⟩⟩
      | exit id =>
        obtain ⟨q1, q2, q3, q4⟩ := back (some (.exit id)) U hp.1
        exact ⟨_, _, q1, .inr ⟨rfl, .exit id, (hIx _).putObj _ hp.2 (by omega) q2 rfl, q3, q4⟩⟩
      | goto t =>
        obtain ⟨q1, q2, q3, q4⟩ := back (some (.goto t)) U hp.1
        exact ⟨_, _, q1, .inr ⟨rfl, .goto t, (hIx _).putObj _ hp.2 (by omega) q2 rfl, q3, q4⟩⟩
      | panic ch => exact hp.elim
      | outgrown => exact hp.elim
    · rintro e W2 ⟨⟨v, rfl⟩, (⟨xs, hS, hi, hl, hd⟩ | ⟨pre, hSp, c, hi, hl, hd⟩)⟩
      · exact ⟨none, _, by have q := run_endLoop (P := P) hl (by rw [hrec]; simp); rw [hrec] at q; exact q, hdone _ xs _ (Nat.le_refl _) hS (hI.putObj _ hi (by omega) hl rfl) ((World.putObj_heap_other (by omega)).trans hd)⟩
      · exact ⟨some c, _, by have q := run_endLoop (P := P) hl (by rw [hrec]; simp); rw [hrec] at q; exact q, hstop _ c pre _ (Nat.le_refl _) hSp ((hIx c).putObj _ hi (by omega) hl rfl) ((World.putObj_heap_other (by omega)).trans hd)⟩
end
end Go.Proofs.Ytkhmlbkkdflnoaa
