/-
  ROWS IN MEMORY (limits.Rows), and families of own rows.
-/
import Derived.Test.YtkhmlbkkdflnoaaChs
import Derived.Deep.OwnRows
namespace Go.Proofs.Ytkhmlbkkdflnoaa.Nm
open Go.RowKit Go.Proofs.Ytkhmlbkkdflnoaa Go
set_option linter.unusedVariables false
attribute [local go_sem ↓] Go.wp_at_zero Go.wp_at_succ

/-- the row i of the slice at b, o -/
def RowAt (w : World) (b o i : Nat) (r : Int × List Nat) : Prop := w.cell? ⟨b, o + i * 2, none⟩ = some (.int .i64 r.1) ∧ ∃ MA mc, w.cell? ⟨b, o + i * 2 + 1, none⟩ = some (.slice MA r.2.length mc) ∧ (r.2.length ≤ mc ∧ mc ≤ 9223372036854775807) ∧ RZ w MA r.2.length (fun k => ((r.2.getD k 0 : Nat) : Int))
def RW (w : World) (A : Option Addr) (L : List (Int × List Nat)) : Prop := ∀ i, i < L.length → ∃ b o, A = some ⟨b, o, none⟩ ∧ b < w.heap.size ∧ RowAt w b o i (L.getD i (0, []))
theorem RW.keep {w w' : World} {A : Option Addr} {L : List (Int × List Nat)} (h : RW w A L) (hb : Below w.heap.size w w') : RW w' A L := fun i hi => by
  obtain ⟨b, o, e, hl, h0, MA, mc, h1, h2, h3⟩ := h i hi
  exact ⟨b, o, e, Nat.lt_of_lt_of_le hl hb.size, old_at h0 hb, MA, mc, old_at h1 hb, h2, h3.keep hb⟩
def bef (l : List Nat) (k : Nat) : Int := if k = 0 then -1 else ((l.getD (k - 1) 0 : Nat) : Int)
theorem bef_succ (l : List Nat) (k : Nat) : bef l (k + 1) = ((l.getD k 0 : Nat) : Int) := by simp [bef]
/-- a row of members below n -/
structure RowP (n : Nat) (r : Int × List Nat) : Prop where
  cap : 0 ≤ r.1 ∧ r.1 ≤ 1000
  len : r.2.length ≤ 16
  asc : ∀ k, k < r.2.length → bef r.2 k < ((r.2.getD k 0 : Nat) : Int)
  lt : ∀ k, k < r.2.length → r.2.getD k 0 < n
theorem asc_of {l : List Nat} (h : l.Pairwise (· < ·)) : ∀ k, k < l.length → bef l k < ((l.getD k 0 : Nat) : Int) := by
  intro k hk
  unfold bef
  split
  · omega
  · have h1 := List.pairwise_iff_getElem.1 h (k - 1) k (by omega) hk (by omega)
    have e1 : l.getD (k - 1) 0 = l[k - 1] := by simp [List.getD, show k - 1 < l.length by omega]
    have e2 : l.getD k 0 = l[k] := by simp [List.getD, hk]
    rw [e1, e2]
    omega
/-! all blocks but those of P are as they were -/
structure Exc (P : Nat → Prop) (w w' : World) : Prop where
  os : w'.os = w.os
  tape : w'.tape = w.tape
  output : w'.output = w.output
  size : w.heap.size ≤ w'.heap.size
  block : ∀ k, k < w.heap.size → ¬ P k → w'.heap[k]? = w.heap[k]?
namespace Exc
variable {P : Nat → Prop} {w w' w'' : World}
theorem refl (w : World) : Exc P w w := ⟨rfl, rfl, rfl, Nat.le_refl _, fun _ _ _ => rfl⟩
theorem trans (h : Exc P w w') (k : Exc P w' w'') : Exc P w w'' := ⟨k.os.trans h.os, k.tape.trans h.tape, k.output.trans h.output, Nat.le_trans h.size k.size, fun i hi hp => (k.block i (Nat.lt_of_lt_of_le hi h.size) hp).trans (h.block i hi hp)⟩
theorem of_below (h : Below w.heap.size w w') : Exc P w w' := ⟨h.os, h.tape, h.output, h.size, fun k hk _ => h.block k hk⟩
theorem below (h : Exc P w w') (hb : Below w'.heap.size w' w'') : Exc P w w'' := h.trans (of_below hb)
theorem set (h : Exc P w w') {p : Addr} (hp : P p.block) (u : Value) : Exc P w (w'.setCell p u) := h.trans ⟨rfl, rfl, rfl, by simp [World.setCell], fun k hk hn => Below.heap_setCell _ _ _ _ (fun e => hn (e ▸ hp))⟩
theorem alloc (h : Exc P w w') (o : Obj) : Exc P w (w'.alloc o) := h.below (bel_alloc (Below.refl _ _) o)
theorem mono {Q : Nat → Prop} (h : Exc P w w') (hq : ∀ k, P k → Q k) : Exc Q w w' := ⟨h.os, h.tape, h.output, h.size, fun k hk hn => h.block k hk (fun e => hn (hq k e))⟩
theorem cell (h : Exc P w w') {q : Addr} {v : Value} (hv : w.cell? q = some v) (hn : ¬ P q.block) : w'.cell? q = some v := (World.cell?_of_block (w := w) (h.block _ (World.block_lt_of_cell? w q hv) hn)).trans hv
theorem to_below {B : Nat} {w0 : World} (h : Exc P w w') (hb : Below B w0 w) (hB : B ≤ w.heap.size) (hP : ∀ k, P k → B ≤ k) : Below B w0 w' := hb.trans ⟨h.os, h.tape, h.output, h.size, fun k hk => h.block k (by omega) (fun e => by have := hP k e; omega)⟩
theorem row {b : Nat} {t : TypeId} {n : Nat} {f : Nat → Value} (h : Exc P w w') (hr : w.rowIs b t n f) (hn : ¬ P b) : w'.rowIs b t n f := hr.of_block (h.block b hr.lt hn)
theorem rz {A : Option Addr} {n : Nat} {z : Nat → Int} (h : Exc P w w') (hr : RZ w A n z) (hn : ∀ b o, A = some ⟨b, o, none⟩ → ¬ P b) : RZ w' A n z := fun i hi => by
  obtain ⟨b, o, e, hl, hc⟩ := hr i hi
  exact ⟨b, o, e, Nat.lt_of_lt_of_le hl h.size, h.cell hc (hn b o e)⟩
end Exc
theorem rowIs_below {w w' : World} {b : Nat} {t : TypeId} {n : Nat} {f : Nat → Value} (hr : w.rowIs b t n f) (hb : Below w.heap.size w w') : w'.rowIs b t n f := hr.of_block (hb.block b hr.lt)
theorem own_at {W W' : World} {B : Nat} {t : TypeId} {s n : Nat} {v : Value} {xs : List Value} (h : W.ownsRow B t s v n xs) (hb : ∀ g, B ≤ g → g < W.heap.size → W'.heap[g]? = W.heap[g]?) : W'.ownsRow B t s v n xs := by
  refine ⟨h.1, ?_⟩
  rcases h.2 with h' | ⟨g, cap, cur, h1, h2, h3, h4⟩
  · exact .inl h'
  · exact .inr ⟨g, cap, cur, h1, h2, (hb g h2 (Array.getElem?_eq_some_iff.1 h3).1).trans h3, h4⟩
/-- n own rows of numbers, that lie apart -/
def Fam (B : Nat) (n : Nat) (V : Nat → Value) (L : Nat → List Nat) (w : World) : Prop :=
  (∀ m, m < n → w.ownsRow B 3 1 (V m) (L m).length ((L m).map fun (k : Nat) => Value.int .i64 (k : Int))) ∧ ∀ m m', m < n → m' < n → m ≠ m' → (V m).ownBlock = none ∨ (V m).ownBlock ≠ (V m').ownBlock
theorem Fam.at {B n : Nat} {V : Nat → Value} {L : Nat → List Nat} {w w' : World} (h : Fam B n V L w) (hb : ∀ g, B ≤ g → g < w.heap.size → w'.heap[g]? = w.heap[g]?) : Fam B n V L w' := ⟨fun m hm => own_at (h.1 m hm) hb, h.2⟩
theorem Fam.keep {B n : Nat} {V : Nat → Value} {L : Nat → List Nat} {w w' : World} (h : Fam B n V L w) (hb : Below w.heap.size w w') : Fam B n V L w' := h.at fun g _ hg => hb.block g hg
theorem Fam.alloc {B n : Nat} {V : Nat → Value} {L : Nat → List Nat} {w : World} (h : Fam B n V L w) (o : Obj) : Fam B n V L (w.alloc o) := h.keep (bel_alloc (Below.refl _ _) o)
theorem Fam.set {B n : Nat} {V : Nat → Value} {L : Nat → List Nat} {w : World} (h : Fam B n V L w) {p : Addr} (hp : p.block < B) (u : Value) : Fam B n V L (w.setCell p u) := h.at fun g hg _ => Below.heap_setCell _ _ _ _ (by omega)
theorem Fam.nil (B n : Nat) (w : World) : Fam B n (fun _ => .slice none 0 0) (fun _ => []) w := ⟨fun m _ => ⟨rfl, .inl ⟨rfl, rfl⟩⟩, fun m m' _ _ _ => .inl rfl⟩
theorem Fam.step {B n m g cap s : Nat} {V : Nat → Value} {L : Nat → List Nat} {w w' : World} (h : Fam B n V L w) (hm : m < n)
    (hown : w'.ownsRow B 3 1 (.slice (some ⟨g, 0, none⟩) ((L m).length + 1) cap) ((L m).length + 1) (((L m).map fun (k : Nat) => Value.int .i64 (k : Int)) ++ [Value.int .i64 (s : Int)])) (hgrow : w.grownBy w' (V m).ownBlock) (hat : (V m).ownBlock = some g ∨ g = w.heap.size) :
    Fam B n (fun j => if j = m then .slice (some ⟨g, 0, none⟩) ((L m).length + 1) cap else V j) (fun j => if j = m then L m ++ [s] else L j) w' := by
  have hne : ∀ j, j < n → j ≠ m → (V j).ownBlock = none ∨ (V j).ownBlock ≠ some g := fun j hj hjm => by
    rcases hat with e | e
    · rw [← e]; exact h.2 j m hj hm hjm
    · right
      intro e2
      have := (h.1 j hj).lt g e2
      omega
  constructor
  · intro j hj
    by_cases hjm : j = m
    · subst hjm
      simp only [if_true, List.length_append, List.map_append, List.length_cons, List.length_nil, List.map_cons, List.map_nil]
      exact hown
    · simp only [if_neg hjm]
      exact (h.1 j hj).kept hgrow (h.2 j m hj hm hjm)
  · intro j j' hj hj' hjj
    by_cases h1 : j = m
    · subst h1
      have h2 : ¬ j' = j := fun e => hjj e.symm
      simp only [if_true, if_neg h2]
      right
      intro e
      rcases hne j' hj' h2 with h3 | h3
      · rw [h3] at e; cases e
      · exact h3 e.symm
    · by_cases h2 : j' = m
      · subst h2
        simp only [if_true, if_neg h1]
        exact hne j hj h1
      · simp only [if_neg h1, if_neg h2]
        exact h.2 j j' hj hj' hjj
theorem Fam.rz {B n m : Nat} {V : Nat → Value} {L : Nat → List Nat} {w : World} (h : Fam B n V L w) (hm : m < n) : ∃ A c, V m = .slice A (L m).length c ∧ ((L m).length ≤ c ∧ c ≤ 9223372036854775807) ∧ RZ w A (L m).length (fun i => (((L m).getD i 0 : Nat) : Int)) ∧ ∀ b o, A = some ⟨b, o, none⟩ → B ≤ b := by
  have hr : IR B w (L m) (V m) w := ⟨h.1 m hm, Below.refl _ _⟩
  obtain ⟨A, c, e, hc, hz⟩ := hr.rz
  refine ⟨A, c, e, hc, hz, fun b o eA => ?_⟩
  have := (h.1 m hm).lt b (by rw [e, eA]; rfl)
  exact this.1
end Go.Proofs.Ytkhmlbkkdflnoaa.Nm
