/-
  RECORDS, and the plain law of Net.
-/
import Derived.Test.YtkhmlbkkdflnoaaPay
namespace Go.Proofs.Ytkhmlbkkdflnoaa
open Go.RowKit
set_option linter.unusedVariables false

/-- cell j of a record -/
def cv (j : Nat) (x : Int) : Value := if j < 9 then .int .i64 x else .int .u64 x
/-- the slice at A reads as these n records -/
def RR (w : World) (A : Option Addr) (n : Nat) (X : Nat → Nat → Int) : Prop := ∀ i, i < n → ∃ b o, A = some ⟨b, o, none⟩ ∧ b < w.heap.size ∧ ∀ j, j < 13 → w.cell? ⟨b, o + i * 13 + j, none⟩ = some (cv j (X i j))
theorem RR.keep {w w' : World} {A : Option Addr} {n : Nat} {X : Nat → Nat → Int} (x : RR w A n X) (hb : Below w.heap.size w w') : RR w' A n X := fun i hi => by
  obtain ⟨b, o, e, hl, hc⟩ := x i hi
  exact ⟨b, o, e, Nat.lt_of_lt_of_le hl hb.size, fun j hj => old_at (hc j hj) hb⟩
theorem RR.cells {w : World} {A : Option Addr} {n : Nat} {X : Nat → Nat → Int} (x : RR w A n X) {i : Nat} (hi : i < n) : ∃ b o, A = some ⟨b, o, none⟩ ∧ b < w.heap.size ∧
    w.cell? ⟨b, o + i * 13, none⟩ = some (.int .i64 (X i 0)) ∧ w.cell? ⟨b, o + i * 13 + 1, none⟩ = some (.int .i64 (X i 1)) ∧ w.cell? ⟨b, o + i * 13 + 2, none⟩ = some (.int .i64 (X i 2)) ∧ w.cell? ⟨b, o + i * 13 + 3, none⟩ = some (.int .i64 (X i 3)) ∧
    w.cell? ⟨b, o + i * 13 + 4, none⟩ = some (.int .i64 (X i 4)) ∧ w.cell? ⟨b, o + i * 13 + 5, none⟩ = some (.int .i64 (X i 5)) ∧ w.cell? ⟨b, o + i * 13 + 6, none⟩ = some (.int .i64 (X i 6)) ∧ w.cell? ⟨b, o + i * 13 + 7, none⟩ = some (.int .i64 (X i 7)) ∧
    w.cell? ⟨b, o + i * 13 + 8, none⟩ = some (.int .i64 (X i 8)) ∧ w.cell? ⟨b, o + i * 13 + 9, none⟩ = some (.int .u64 (X i 9)) ∧ w.cell? ⟨b, o + i * 13 + 10, none⟩ = some (.int .u64 (X i 10)) ∧ w.cell? ⟨b, o + i * 13 + 11, none⟩ = some (.int .u64 (X i 11)) ∧
    w.cell? ⟨b, o + i * 13 + 12, none⟩ = some (.int .u64 (X i 12)) := by
  obtain ⟨b, o, e, hl, hc⟩ := x i hi
  exact ⟨b, o, e, hl, hc 0 (by omega), hc 1 (by omega), hc 2 (by omega), hc 3 (by omega), hc 4 (by omega), hc 5 (by omega), hc 6 (by omega), hc 7 (by omega), hc 8 (by omega), hc 9 (by omega), hc 10 (by omega), hc 11 (by omega), hc 12 (by omega)⟩

/-- can the record be settled? -/
def okR (m : Int) (x : Nat → Int) : Bool := decide ((0 ≤ x 3 ∧ x 3 < m) ∧ (0 ≤ x 4 ∧ x 4 < m) ∧ 0 ≤ x 8 ∧ x 8 ≤ 1000000000)
theorem okR_iff {m : Int} {x : Nat → Int} : okR m x = true ↔ (0 ≤ x 3 ∧ x 3 < m) ∧ (0 ≤ x 4 ∧ x 4 < m) ∧ 0 ≤ x 8 ∧ x 8 ≤ 1000000000 := by simp [okR]
/-- all of k -/
def allR (m : Int) (X : Nat → Nat → Int) (k : Nat) : Prop := ∀ i, i < k → okR m (X i) = true
/-- two have the same host and session -/
def dup (X : Nat → Nat → Int) (k : Nat) : Prop := ∃ i, i < k ∧ ∃ j, j < i ∧ X i 4 = X j 4 ∧ X i 0 = X j 0
/-- what a network gets -/
def get (X : Nat → Nat → Int) : Nat → Nat → Int
  | 0 => fun _ => 0
  | k + 1 => mvd (get X k) (X k 4).toNat (X k 3).toNat (X k 8)
/-- the keys of k records -/
def keys (X : Nat → Nat → Int) : Nat → List (Int × Int)
  | 0 => []
  | k + 1 => (X k 4, X k 0) :: keys X k
theorem keys_mem {X : Nat → Nat → Int} {x : Int × Int} : ∀ k, x ∈ keys X k ↔ ∃ j, j < k ∧ x = (X j 4, X j 0) := by
  intro k
  induction k with
  | zero => simp [keys]
  | succ k ih =>
    simp only [keys, List.mem_cons, ih]
    constructor
    · rintro (h | ⟨j, hj, h⟩)
      · exact ⟨k, by omega, h⟩
      · exact ⟨j, by omega, h⟩
    · rintro ⟨j, hj, h⟩
      rcases Nat.lt_or_ge j k with h' | h'
      · exact .inr ⟨j, h', h⟩
      · obtain rfl : j = k := by omega
        exact .inl h
theorem dup_zero (X : Nat → Nat → Int) : ¬ dup X 0 := fun ⟨i, hi, _⟩ => by omega
theorem dup_succ {X : Nat → Nat → Int} {k : Nat} : dup X (k + 1) ↔ dup X k ∨ (X k 4, X k 0) ∈ keys X k := by
  rw [keys_mem]
  constructor
  · rintro ⟨i, hi, j, hj, h1, h2⟩
    rcases Nat.lt_or_ge i k with h' | h'
    · exact .inl ⟨i, h', j, hj, h1, h2⟩
    · obtain rfl : i = k := by omega
      exact .inr ⟨j, hj, by rw [h1, h2]⟩
  · rintro (⟨i, hi, h⟩ | ⟨j, hj, h⟩)
    · exact ⟨i, by omega, h⟩
    · injection h with h1 h2
      exact ⟨k, by omega, j, hj, h1, h2⟩
theorem dup_mono {X : Nat → Nat → Int} {k n : Nat} (h : dup X k) (hk : k ≤ n) : dup X n := by
  obtain ⟨i, hi, r⟩ := h
  exact ⟨i, by omega, r⟩
theorem get_bd {X : Nat → Nat → Int} {m : Int} : ∀ k, allR m X k → ∀ i, -(k * 1000000000 : Int) ≤ get X k i ∧ get X k i ≤ k * 1000000000 := by
  intro k
  induction k with
  | zero => intro _ i; simp [get]
  | succ k ih =>
    intro h i
    have h1 := ih (fun j hj => h j (by omega)) i
    have h2 := okR_iff.1 (h k (by omega))
    simp only [get, mvd]
    split <;> split <;> omega
/-- what Net answers of at most 64 records and 1 to 8 networks -/
def NetR (W : World) (v : Value) (er : Int) (X : Nat → Nat → Int) (n m : Nat) : Prop :=
  (er = 1 ∧ v = .slice none 0 0 ∧ ¬ allR m X n) ∨ (er = 5 ∧ v = .slice none 0 0 ∧ allR m X n ∧ dup X n) ∨ (er = 0 ∧ allR m X n ∧ ¬ dup X n ∧ ∃ g, v = .slice (some ⟨g, 0, none⟩) m m ∧ OwnR W g m m (get X n))
end Go.Proofs.Ytkhmlbkkdflnoaa
