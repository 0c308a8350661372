/-
  THE WALKS over package chain, first part: what is valid, older, later.
-/
import Derived.Test.YtkhmlbkkdflnoaaMem
import Derived.Handy
import Derived.Deep.DeepCutAuto
import Derived.WalkMore
namespace Go.Proofs.Ytkhmlbkkdflnoaa.Ch
open Go.RowKit
set_option linter.unusedVariables false
set_option linter.unusedSimpArgs false
attribute [local go_sem ↓] Go.wp_at_zero Go.wp_at_succ

def inB (n a b : Int) : Bool := decide (a ≤ n) && decide (n ≤ b)
theorem inB_iff {n a b : Int} : inB n a b = true ↔ a ≤ n ∧ n ≤ b := by simp [inB]
theorem inB_no {n a b : Int} (h : inB n a b = false) : ¬ (a ≤ n ∧ n ≤ b) := fun x => by rw [inB_iff.2 x] at h; cases h
theorem ins_any (n a b : Int) (w : World) : Calls Try.prog 123 #[.int .i64 n, .int .i64 a, .int .i64 b] w fun e w' => e = .returned (.bool (inB n a b)) ∧ w = w' := by
  by_cases h1 : a ≤ n
  · by_cases h2 : n ≤ b
    · go_enter Try.func123, Try.ntmps123
      go_wp2
      go_ret
      exact ⟨ret_bool (by simp [inB, h1, h2]), rfl⟩
    · go_enter Try.func123, Try.ntmps123
      go_wp2
      go_ret
      exact ⟨ret_bool (by simp [inB, h1, h2]), rfl⟩
  · go_enter Try.func123, Try.ntmps123
    go_wp2
    go_ret
    exact ⟨ret_bool (by simp [inB]; omega), rfl⟩
/-- a reading, by value -/
def rdV (x : Nat → Int) : Value := .agg #[.int .i64 (x 0), .int .i64 (x 1), .int .i64 (x 2), .int .i64 (x 3), .int .u64 (x 4)]
def vR (x : Nat → Int) : Bool := inB (x 0) 1 1000000 && (inB (x 1) 1 64 && (inB (x 2) 0 52560000 && inB (x 3) 0 1000000000))
set_option maxHeartbeats 2000000 in
theorem valid_any (a b c d l : Int) (w : World) :
    Calls Try.prog 90 #[.agg #[.int .i64 a, .int .i64 b, .int .i64 c, .int .i64 d, .int .u64 l]] w fun e w' => e = .returned (.bool (inB a 1 1000000 && (inB b 1 64 && (inB c 0 52560000 && inB d 0 1000000000)))) ∧ Below w.heap.size w w' := by
  cases h1 : inB a 1 1000000 <;> cases h2 : inB b 1 64 <;> cases h3 : inB c 0 52560000 <;> cases h4 : inB d 0 1000000000
  all_goals
    go_enter Try.func90, Try.ntmps90
    go_wp2_with (go_at_call 123; with_reducible refine (ins_any _ _ _ _).mono ?_; rintro e w1 ⟨rfl, rfl⟩)
    go_ret
    exact ⟨by simp [h1, h2, h3, h4], bel_alloc (Below.refl _ _) _⟩
def oldB (x y : Nat → Int) : Bool := decide (y 2 < x 2) || (decide (y 0 = x 0) && decide (y 3 < x 3))
def latB (x y : Nat → Int) : Bool := decide (y 0 ≠ x 0) && decide (y 2 ≠ x 2)
set_option maxHeartbeats 2000000 in
theorem old_any (a b c d l a' b' c' d' l' : Int) (w : World) :
    Calls Try.prog 91 #[.agg #[.int .i64 a, .int .i64 b, .int .i64 c, .int .i64 d, .int .u64 l], .agg #[.int .i64 a', .int .i64 b', .int .i64 c', .int .i64 d', .int .u64 l']] w fun e w' => e = .returned (.bool (decide (c' < c) || (decide (a' = a) && decide (d' < d)))) ∧ Below w.heap.size w w' := by
  by_cases h1 : c' < c
  · go_enter Try.func91, Try.ntmps91
    go_wp2
    go_ret
    exact ⟨ret_bool (by simp [h1]), bel_alloc (bel_alloc (Below.refl _ _) _) _⟩
  · by_cases h2 : a' = a
    · subst h2
      by_cases h3 : d' < d
      · go_enter Try.func91, Try.ntmps91
        go_wp2
        go_ret
        exact ⟨ret_bool (by simp [h3]), bel_alloc (bel_alloc (Below.refl _ _) _) _⟩
      · go_enter Try.func91, Try.ntmps91
        go_wp2
        go_ret
        exact ⟨ret_bool (by simp [h1, h3]), bel_alloc (bel_alloc (Below.refl _ _) _) _⟩
    · have e2 : (a' == a) = false := by simpa using h2
      go_enter Try.func91, Try.ntmps91
      go_wp2
      go_ret
      exact ⟨ret_bool (by simp [h1, h2]), bel_alloc (bel_alloc (Below.refl _ _) _) _⟩
set_option maxHeartbeats 2000000 in
theorem lat_any (a b c d l a' b' c' d' l' : Int) (w : World) :
    Calls Try.prog 92 #[.agg #[.int .i64 a, .int .i64 b, .int .i64 c, .int .i64 d, .int .u64 l], .agg #[.int .i64 a', .int .i64 b', .int .i64 c', .int .i64 d', .int .u64 l']] w fun e w' => e = .returned (.bool (decide (a' ≠ a) && decide (c' ≠ c))) ∧ Below w.heap.size w w' := by
  by_cases h2 : a' = a
  · subst h2
    go_enter Try.func92, Try.ntmps92
    go_wp2
    go_ret
    exact ⟨ret_bool (by simp), bel_alloc (bel_alloc (Below.refl _ _) _) _⟩
  · have e2 : (a' != a) = true := by simpa using h2
    by_cases h3 : c' = c
    · subst h3
      go_enter Try.func92, Try.ntmps92
      go_wp2
      go_ret
      exact ⟨ret_bool (by simp), bel_alloc (bel_alloc (Below.refl _ _) _) _⟩
    · have e3 : (c' != c) = true := by simpa using h3
      go_enter Try.func92, Try.ntmps92
      go_wp2
      go_ret
      exact ⟨ret_bool (by simp [h2, h3]), bel_alloc (bel_alloc (Below.refl _ _) _) _⟩
end Go.Proofs.Ytkhmlbkkdflnoaa.Ch
