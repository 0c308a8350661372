/-
  MEMORY of package bids, and the plain words: a record of days, the days that count, the baseline.
-/
import Derived.Test.YtdeeaehdbaoloaaRows
import Derived.WalkKit
import Derived.WalkSpells
import Derived.WalkLawsBesides
import Derived.BigGuardPart
import Derived.StillTailTactics
import Derived.Deep.QuietTactic
import Derived.BigQuiet
import Derived.IntWalk
import Derived.Lib.Hide
import Derived.Outline
import Derived.Deep.RegionHeld3
import Derived.Deep.RegionLaw
import Derived.Deep.DrawnRows
import Derived.Deep.AppendLies
namespace Go.Proofs.Ytdeeaehdbaoloaa
open Go.RowKit
set_option linter.unusedVariables false

theorem ret_bool {a b : Bool} (h : a = b) : Ending.returned (.bool a) = .returned (.bool b) := by rw [h]
theorem ret_int {k : IntKind} {a b : Int} (h : a = b) : Ending.returned (.int k a) = .returned (.int k b) := by rw [h]
theorem ret_two {k l : IntKind} {a b c d : Int} (h : a = b) (g : c = d) : Ending.returned (.tuple #[.int k a, .int l c]) = .returned (.tuple #[.int k b, .int l d]) := by rw [h, g]
theorem bel_alloc {a w : World} (h : Below a.heap.size a w) (o : Obj) : Below a.heap.size a (w.alloc o) := h.alloc h.size o
theorem bel_step {w0 w w' : World} (h : Below w0.heap.size w0 w) (hb : Below w.heap.size w w') : Below w0.heap.size w0 w' := h.trans (hb.mono h.size)
theorem all_snoc {P : Nat → Prop} {k : Nat} (h : ∀ j, j < k → P j) (hk : P k) : ∀ j, j < k + 1 → P j := fun j hj => by
  rcases Nat.lt_or_ge j k with h' | h'
  · exact h j h'
  · obtain rfl : j = k := by omega
    exact hk

/-- the slice at A reads as these n numbers -/
def RZ (w : World) (A : Option Addr) (n : Nat) (z : Nat → Int) : Prop := ∀ i, i < n → ∃ b o, A = some ⟨b, o, none⟩ ∧ b < w.heap.size ∧ w.cell? ⟨b, o + i, none⟩ = some (.int .i64 (z i))
theorem RZ.keep {w w' : World} {A : Option Addr} {n : Nat} {z : Nat → Int} (x : RZ w A n z) (hb : Below w.heap.size w w') : RZ w' A n z := fun i hi => by
  obtain ⟨b, o, e, hl, hc⟩ := x i hi
  exact ⟨b, o, e, Nat.lt_of_lt_of_le hl hb.size, (hb.cell (p := ⟨b, o + i, none⟩) hl).trans hc⟩
theorem RZ_at {w w' : World} {b o n k : Nat} {z : Nat → Int} (x : RZ w (some ⟨b, o, none⟩) n z) (hb : Below w.heap.size w w') (hk : k < n) : w'.cell? ⟨b, o + k, none⟩ = some (.int .i64 (z k)) := by
  obtain ⟨b', o', e, _, hc⟩ := x.keep hb k hk
  cases e
  exact hc
/-- the slice at A reads as these n truths -/
def RP (w : World) (A : Option Addr) (n : Nat) (p : Nat → Bool) : Prop := ∀ i, i < n → ∃ b o, A = some ⟨b, o, none⟩ ∧ b < w.heap.size ∧ w.cell? ⟨b, o + i, none⟩ = some (.bool (p i))
theorem RP.keep {w w' : World} {A : Option Addr} {n : Nat} {p : Nat → Bool} (x : RP w A n p) (hb : Below w.heap.size w w') : RP w' A n p := fun i hi => by
  obtain ⟨b, o, e, hl, hc⟩ := x i hi
  exact ⟨b, o, e, Nat.lt_of_lt_of_le hl hb.size, (hb.cell (p := ⟨b, o + i, none⟩) hl).trans hc⟩
theorem RP.le {w : World} {A : Option Addr} {n m : Nat} {p : Nat → Bool} (x : RP w A n p) (h : m ≤ n) : RP w A m p := fun i hi => x i (by omega)
/-- the slice at A reads as these n rows of numbers -/
def RM (w : World) (A : Option Addr) (n : Nat) (L : Nat → Nat) (z : Nat → Nat → Int) : Prop := ∀ i, i < n → ∃ b o R C, A = some ⟨b, o, none⟩ ∧ b < w.heap.size ∧ w.cell? ⟨b, o + i, none⟩ = some (.slice R (L i) C) ∧ (L i ≤ C ∧ C ≤ 9223372036854775807) ∧ (R = none → C = 0) ∧ RZ w R (L i) (z i)
theorem RM.keep {w w' : World} {A : Option Addr} {n : Nat} {L : Nat → Nat} {z : Nat → Nat → Int} (x : RM w A n L z) (hb : Below w.heap.size w w') : RM w' A n L z := fun i hi => by
  obtain ⟨b, o, R, C, e, hl, hc, h1, h2, h3⟩ := x i hi
  exact ⟨b, o, R, C, e, Nat.lt_of_lt_of_le hl hb.size, (hb.cell (p := ⟨b, o + i, none⟩) hl).trans hc, h1, h2, h3.keep hb⟩

/-- a sum -/
def tot (z : Nat → Int) : Nat → Int
  | 0 => 0
  | k + 1 => tot z k + z k
theorem tot_bd {z : Nat → Int} {n : Nat} {B : Int} (hz : ∀ i, i < n → -B ≤ z i ∧ z i ≤ B) : ∀ k, k ≤ n → -(k * B) ≤ tot z k ∧ tot z k ≤ k * B := by
  intro k
  induction k with
  | zero => intro _; simp [tot]
  | succ k ih =>
    intro hk
    have h1 := ih (by omega)
    have h2 := hz k (by omega)
    have e : ((k + 1 : Nat) : Int) * B = k * B + B := by rw [Int.natCast_add, Int.add_mul]; simp
    simp only [tot]
    omega
theorem tot_pos {z : Nat → Int} {n : Nat} {B : Int} (hz : ∀ i, i < n → 0 ≤ z i ∧ z i ≤ B) : ∀ k, k ≤ n → 0 ≤ tot z k ∧ tot z k ≤ k * B := by
  intro k
  induction k with
  | zero => intro _; simp [tot]
  | succ k ih =>
    intro hk
    have h1 := ih (by omega)
    have h2 := hz k (by omega)
    have e : ((k + 1 : Nat) : Int) * B = k * B + B := by rw [Int.natCast_add, Int.add_mul]; simp
    simp only [tot]
    omega
theorem tot_congr {y z : Nat → Int} {n : Nat} (h : ∀ i, i < n → y i = z i) : tot y n = tot z n := by
  induction n with
  | zero => rfl
  | succ n ih => simp only [tot]; rw [ih fun i hi => h i (by omega), h n (by omega)]

/-- a row is in order -/
def rowOK (L : Nat → Nat) (z : Nat → Nat → Int) (i : Nat) : Prop := (1 ≤ L i ∧ L i ≤ 24 ∧ L i = L 0) ∧ ∀ j, j < L i → 0 ≤ z i j ∧ z i j ≤ 1000
instance (L : Nat → Nat) (z : Nat → Nat → Int) (i : Nat) : Decidable (rowOK L z i) := by unfold rowOK; exact inferInstance
/-- a record is valid -/
def vd (n m : Nat) (L : Nat → Nat) (z : Nat → Nat → Int) : Bool := decide ((n ≤ 60 ∧ m = n) ∧ ∀ i, i < n → rowOK L z i)
theorem vd_iff {n m : Nat} {L : Nat → Nat} {z : Nat → Nat → Int} : vd n m L z = true ↔ (n ≤ 60 ∧ m = n) ∧ ∀ i, i < n → rowOK L z i := by simp [vd]

/-- the days before a day that have no bid, backward -/
def ds (p : Nat → Bool) : Nat → List Nat
  | 0 => []
  | k + 1 => if p k = true then ds p k else k :: ds p k
theorem ds_lt (p : Nat → Bool) (k : Nat) : ∀ d ∈ ds p k, d < k := by
  induction k with
  | zero => simp [ds]
  | succ k ih =>
    intro d hd
    simp only [ds] at hd
    split at hd
    · have := ih d hd; omega
    · rcases List.mem_cons.1 hd with rfl | h
      · omega
      · have := ih d h; omega
theorem ds_len (p : Nat → Bool) (k : Nat) : (ds p k).length ≤ k := by
  induction k with
  | zero => simp [ds]
  | succ k ih =>
    simp only [ds]
    split
    · omega
    · simp; omega
/-- the days that count -/
def dy (p : Nat → Bool) (day i : Nat) : Nat := (ds p day).getD i 0
theorem dy_lt {p : Nat → Bool} {day i : Nat} (h : i < (ds p day).length) : dy p day i < day := by
  unfold dy
  rw [List.getD_eq_getElem?_getD, List.getElem?_eq_getElem h]
  exact ds_lt p day _ (List.getElem_mem h)
/-- the baseline -/
def bs (p : Nat → Bool) (z : Nat → Nat → Int) (day slot : Nat) : Int := tot (fun i => z (dy p day i) slot) 5 / 5
end Go.Proofs.Ytdeeaehdbaoloaa
