/-
  THE REFERENCE'S Valid: its parts.
-/
import Derived.Test.YtkhmlbkkdflnoaaNamd
namespace Go.Proofs.Ytkhmlbkkdflnoaa.Nm
open Go.RowKit Go.Proofs.Ytkhmlbkkdflnoaa Go
set_option linter.unusedVariables false
attribute [local go_sem ↓] Go.wp_at_zero Go.wp_at_succ

theorem inside_det (n l h : Int) (w : World) : Calls Try.prog 69 #[.int .i64 n, .int .i64 l, .int .i64 h] w fun e w' => e = .returned (.bool (decide (l ≤ n ∧ n ≤ h))) ∧ w' = w := by
  by_cases h1 : l ≤ n
  · have hr : Hid (decide (n ≤ h) = decide (l ≤ n ∧ n ≤ h)) := Lib.hid (by simp [h1])
    go_enter Try.func69, Try.ntmps69
    go_wp2
    all_goals (try (exfalso; omega))
    go_ret
    exact ⟨ret_bool (by have hx := hr.out; first | exact hx | simpa using hx), rfl⟩
  · have hr : Hid (false = decide (l ≤ n ∧ n ≤ h)) := Lib.hid (by simp [h1])
    go_enter Try.func69, Try.ntmps69
    go_wp2
    all_goals (try (exfalso; omega))
    go_ret
    exact ⟨ret_bool (by have hx := hr.out; first | exact hx | simpa using hx), rfl⟩
/-- what a charger must be, apart from its name and its indices (z 2 .. z 6: phases, least, greatest, step, fallback) -/
def ChP (z : Nat → Int) : Prop := (1 ≤ z 2 ∧ z 2 ≤ 7) ∧ (1 ≤ z 3 ∧ z 3 ≤ 80) ∧ (z 3 ≤ z 4 ∧ z 4 ≤ 80) ∧ (1 ≤ z 5 ∧ z 5 ≤ 80) ∧ (z 6 = 0 ∨ (z 3 ≤ z 6 ∧ z 6 ≤ z 4))
set_option maxRecDepth 100000 in
set_option maxHeartbeats 4000000 in
theorem charger_any (s : ByteArray) (z : Nat → Int) (w : World) : Calls Try.prog 72 #[.agg #[.string s, .int .i64 (z 1), .int .i64 (z 2), .int .i64 (z 3), .int .i64 (z 4), .int .i64 (z 5), .int .i64 (z 6), .int .i64 (z 7)]] w fun e w' => yesP (ChP z) e ∧ Below w.heap.size w w' := by
  have HB : Hid (∀ o, Below w.heap.size w (w.alloc o)) := Lib.hid fun o => (Below.refl _ _).alloc (Nat.le_refl _) o
  have HC : Hid ((1 ≤ z 2 ∧ z 2 ≤ 7) → (1 ≤ z 3 ∧ z 3 ≤ 80) → (z 3 ≤ z 4 ∧ z 4 ≤ 80) → (1 ≤ z 5 ∧ z 5 ≤ 80) → (z 6 = 0 ∨ (z 3 ≤ z 6 ∧ z 6 ≤ z 4)) → ChP z) := Lib.hid fun a b c d e => ⟨a, b, c, d, e⟩
  go_enter Try.func72, Try.ntmps72
  go_wp2_with (go_at_call 69; with_reducible refine (inside_det _ _ _ _).mono ?_; rintro e w1 ⟨rfl, rfl⟩)
  all_goals (go_ret; first
    | exact ⟨yes_no _, HB.out _⟩
    | exact ⟨yes_if fun h => HC.out (by assumption) (by assumption) (by assumption) (by assumption) (by first | exact .inl (by assumption) | exact .inr (by simpa using h)), HB.out _⟩)
/-- what a conductor must be (z 1 .. z 10: up, limit, neutral, fuse's rated and heat, cable's ambient, most, gain, loss, den) -/
def CoP (i : Int) (z : Nat → Int) : Prop := (1 ≤ z 2 ∧ z 2 ≤ 1000) ∧ (1 ≤ z 3 ∧ z 3 ≤ 1000) ∧ (i = 0 → z 1 = -1) ∧ (0 < i → 0 ≤ z 1 ∧ z 1 ≤ i - 1) ∧ ((z 4 = 0 ∧ z 5 = 0) ∨ ((1 ≤ z 4 ∧ z 4 ≤ 1000) ∧ 0 ≤ z 5 ∧ z 5 ≤ 1000000)) ∧
  ((z 6 = 0 ∧ z 7 = 0 ∧ z 8 = 0 ∧ z 9 = 0 ∧ z 10 = 0) ∨ ((0 ≤ z 6 ∧ z 6 ≤ 200000) ∧ (z 6 + 1 ≤ z 7 ∧ z 7 ≤ 200000) ∧ (0 ≤ z 8 ∧ z 8 ≤ 1000) ∧ (0 ≤ z 9 ∧ z 9 ≤ 1000) ∧ 1 ≤ z 10 ∧ z 10 ≤ 1000000))
set_option maxRecDepth 100000 in
set_option maxHeartbeats 4000000 in
theorem conductor_any (s : ByteArray) (i : Int) (z : Nat → Int) (w : World) (hi : 0 ≤ i ∧ i ≤ 1000) : Calls Try.prog 71 #[.agg #[.string s, .int .i64 (z 1), .int .i64 (z 2), .int .i64 (z 3), .int .i64 (z 4), .int .i64 (z 5), .int .i64 (z 6), .int .i64 (z 7), .int .i64 (z 8), .int .i64 (z 9), .int .i64 (z 10)], .int .i64 i] w fun e w' => yesP (CoP i z) e ∧ Below w.heap.size w w' := by
  obtain ⟨hi0, hi1⟩ := hi
  have hw1 : IntKind.i64.wrap (i - 1) = i - 1 := IntWalk.i64_in _ (by omega)
  go_enter Try.func71, Try.ntmps71
  go_wp2_with (go_at_call 69; with_reducible refine (inside_det _ _ _ _).mono ?_; rintro e w1 ⟨rfl, rfl⟩)
  all_goals (try (exfalso; omega))
  all_goals (
    go_ret
    refine ⟨?_, by repeat (first | with_reducible exact Below.refl _ _ | with_reducible apply bel_alloc)⟩
    first
      | exact yes_no _
      | (refine yes_if fun h => ?_
         simp only [Bool.and_eq_true, Bool.not_eq_false', decide_eq_true_eq] at *
         unfold CoP
         omega))
end Go.Proofs.Ytkhmlbkkdflnoaa.Nm
