/-
  MEMORY of package settle: numbers, readings, records; a row of numbers of one's own.
-/
import Derived.Test.YtkhmlbkkdflnoaaMap
import Derived.WalkKit
import Derived.WalkSpells
import Derived.WalkLawsBesides
import Derived.BigGuardPart
import Derived.StillTailTactics
import Derived.Deep.QuietTactic
import Derived.BigQuiet
import Derived.IntWalk
import Derived.Lib.Hide
import Derived.Outline
import Derived.Deep.RegionHeld3
import Derived.Deep.RegionLaw
import Derived.Deep.DrawnRows
import Derived.Deep.AppendLies
namespace Go.Proofs.Ytkhmlbkkdflnoaa
open Go.RowKit
set_option linter.unusedVariables false

theorem ret_bool {a b : Bool} (h : a = b) : Ending.returned (.bool a) = .returned (.bool b) := by rw [h]
theorem ret_int {k : IntKind} {a b : Int} (h : a = b) : Ending.returned (.int k a) = .returned (.int k b) := by rw [h]
theorem ret_three {k l : IntKind} {a b c d : Int} {x y : Bool} (h : a = b) (e : x = y) (g : c = d) : Ending.returned (.tuple #[.int k a, .bool x, .int l c]) = .returned (.tuple #[.int k b, .bool y, .int l d]) := by rw [h, e, g]
theorem bel_alloc {a w : World} (h : Below a.heap.size a w) (o : Obj) : Below a.heap.size a (w.alloc o) := h.alloc h.size o
theorem bel_step {w0 w w' : World} (h : Below w0.heap.size w0 w) (hb : Below w.heap.size w w') : Below w0.heap.size w0 w' := h.trans (hb.mono h.size)
theorem below_drewN {B : Nat} {a w : World} (h : Below B a w) (n : Nat) : Below B a (w.drewN n) := ⟨h.os, h.tape, h.output, h.size, h.block⟩
theorem old_at {w w' : World} {q : Addr} {v : Value} (h : w.cell? q = some v) (hb : Below w.heap.size w w') : w'.cell? q = some v := (hb.cell (World.block_lt_of_cell? w q h)).trans h
theorem all_snoc {P : Nat → Prop} {k : Nat} (h : ∀ j, j < k → P j) (hk : P k) : ∀ j, j < k + 1 → P j := fun j hj => by
  rcases Nat.lt_or_ge j k with h' | h'
  · exact h j h'
  · obtain rfl : j = k := by omega
    exact hk

/-- the slice at A reads as these n numbers -/
def RZ (w : World) (A : Option Addr) (n : Nat) (z : Nat → Int) : Prop := ∀ i, i < n → ∃ b o, A = some ⟨b, o, none⟩ ∧ b < w.heap.size ∧ w.cell? ⟨b, o + i, none⟩ = some (.int .i64 (z i))
theorem RZ.keep {w w' : World} {A : Option Addr} {n : Nat} {z : Nat → Int} (x : RZ w A n z) (hb : Below w.heap.size w w') : RZ w' A n z := fun i hi => by
  obtain ⟨b, o, e, hl, hc⟩ := x i hi
  exact ⟨b, o, e, Nat.lt_of_lt_of_le hl hb.size, old_at hc hb⟩
/-- the slice at A reads as these n readings -/
def RG (w : World) (A : Option Addr) (n : Nat) (X : Nat → Nat → Int) : Prop := ∀ i, i < n → ∃ b o, A = some ⟨b, o, none⟩ ∧ b < w.heap.size ∧
  w.cell? ⟨b, o + i * 5, none⟩ = some (.int .i64 (X i 0)) ∧ w.cell? ⟨b, o + i * 5 + 1, none⟩ = some (.int .i64 (X i 1)) ∧ w.cell? ⟨b, o + i * 5 + 2, none⟩ = some (.int .i64 (X i 2)) ∧ w.cell? ⟨b, o + i * 5 + 3, none⟩ = some (.int .i64 (X i 3)) ∧ w.cell? ⟨b, o + i * 5 + 4, none⟩ = some (.int .u64 (X i 4))
theorem RG.keep {w w' : World} {A : Option Addr} {n : Nat} {X : Nat → Nat → Int} (x : RG w A n X) (hb : Below w.heap.size w w') : RG w' A n X := fun i hi => by
  obtain ⟨b, o, e, hl, c0, c1, c2, c3, c4⟩ := x i hi
  exact ⟨b, o, e, Nat.lt_of_lt_of_le hl hb.size, old_at c0 hb, old_at c1 hb, old_at c2 hb, old_at c3 hb, old_at c4 hb⟩

/-- are two readings equal? -/
def eq5 (x y : Nat → Int) : Bool := x 0 == y 0 && (x 1 == y 1 && (x 2 == y 2 && (x 3 == y 3 && x 4 == y 4)))
/-- how many at the head are equal, of m -/
def fi (e : Nat → Bool) : Nat → Nat
  | 0 => 0
  | m + 1 => if fi e m = m ∧ e m = true then m + 1 else fi e m
theorem fi_le (e : Nat → Bool) (m : Nat) : fi e m ≤ m := by
  induction m with
  | zero => simp [fi]
  | succ m ih => simp only [fi]; split <;> omega
theorem fi_lt (e : Nat → Bool) (m : Nat) : ∀ j, j < fi e m → e j = true := by
  induction m with
  | zero => intro j hj; simp [fi] at hj
  | succ m ih =>
    intro j hj
    simp only [fi] at hj
    split at hj
    · rename_i h
      rcases Nat.lt_or_ge j m with hlt | hge
      · exact ih j (by omega)
      · obtain rfl : j = m := by omega
        exact h.2
    · exact ih j hj
theorem fi_at (e : Nat → Bool) (m : Nat) (h : fi e m < m) : e (fi e m) = false := by
  induction m with
  | zero => omega
  | succ m ih =>
    simp only [fi] at h ⊢
    split at h
    · omega
    · rename_i hn
      rw [if_neg hn]
      rcases Nat.lt_or_ge (fi e m) m with hlt | hge
      · exact ih hlt
      · have hm : fi e m = m := by have := fi_le e m; omega
        rw [hm]
        cases he : e m
        · rfl
        · exact absurd ⟨hm, he⟩ hn
theorem fi_eq {e : Nat → Bool} {m k : Nat} (hk : k ≤ m) (h : ∀ j, j < k → e j = true) (hs : k = m ∨ e k = false) : fi e m = k := by
  rcases Nat.lt_trichotomy (fi e m) k with hlt | heq | hgt
  · have := fi_at e m (by omega)
    rw [h _ hlt] at this
    cases this
  · exact heq
  · rcases hs with rfl | hs
    · have := fi_le e k; omega
    · have := fi_lt e m k hgt
      rw [hs] at this
      cases this
end Go.Proofs.Ytkhmlbkkdflnoaa
