/-
  THE WALKS OF THE SEVEN LAWS over package phases.
-/
import Derived.Test.YtodekphoipjbnaaWalks
namespace Go.Proofs.Ytodekphoipjbnaa
open Go.RowKit
set_option linter.unusedVariables false

theorem bel_step {w0 w w' : World} (h : Below w0.heap.size w0 w) (hb : Below w.heap.size w w') : Below w0.heap.size w0 w' := h.trans (hb.mono h.size)
theorem neutral_ok (a b c : Int) (w0 w : World) (h : Below w0.heap.size w0 w) :
    Calls Try.prog 11 #[.int .i64 a, .int .i64 b, .int .i64 c] w fun e w' => e = .returned (.tuple #[.int .i64 (neuN a b c), .int .i64 (erA a b c)]) ∧ Below w0.heap.size w0 w' :=
  (neutral_any a b c w).mono fun _ _ ⟨he, hb⟩ => ⟨he, bel_step h hb⟩
theorem worst_ok (a b c : Int) (w0 w : World) (h : Below w0.heap.size w0 w) :
    Calls Try.prog 13 #[.int .i64 a, .int .i64 b, .int .i64 c] w fun e w' => e = .returned (.tuple #[.int .i64 (worN a b c), .int .i64 (erA a b c)]) ∧ Below w0.heap.size w0 w' :=
  (worst_any a b c w).mono fun _ _ ⟨he, hb⟩ => ⟨he, bel_step h hb⟩

noncomputable def nl (a b c : Int) : Int := if erA a b c = 0 then neuN a b c else -1
theorem nl_ok {a b c : Int} (h : ok3 a b c = true) : nl a b c = root (tw a b c) := by simp [nl, erA, neuN, h]

set_option maxHeartbeats 400000 in
theorem neuL (a b c : Int) (w0 w : World) (h : Below w0.heap.size w0 w) :
    Calls Try.prog 16 #[.int .i64 a, .int .i64 b, .int .i64 c] w fun e w' => e = .returned (.int .i64 (nl a b c)) ∧ Below w0.heap.size w0 w' := by
  by_cases he : erA a b c = 0
  · have hv : Hid (neuN a b c = nl a b c) := by show _ = nl a b c; unfold nl; rw [if_pos he]
    go_enter Try.func16, Try.ntmps16
    go_wp2_with fail
    refine (neutral_ok a b c w0 _ h).mono ?_
    rintro e w1 ⟨rfl, h1⟩
    rw [he]
    go_wp2
    go_ret
    exact ⟨ret_int hv.out, h1⟩
  · have hv : Hid (-1 = nl a b c) := by show _ = nl a b c; unfold nl; rw [if_neg he]
    have he' : (erA a b c != 0) = true := by simpa using he
    have he2 : (erA a b c == 0) = false := by simpa using he
    go_enter Try.func16, Try.ntmps16
    go_wp2_with fail
    refine (neutral_ok a b c w0 _ h).mono ?_
    rintro e w1 ⟨rfl, h1⟩
    go_wp2
    go_ret
    exact ⟨ret_int hv.out, h1⟩

/-! ### the examples -/
theorem ex1 : neuN 10 10 10 = 0 := by unfold neuN; rw [if_pos (by decide)]; exact root_eq (by unfold IsRoot tw; decide)
theorem ex2 : neuN 16 0 0 = 16 := by unfold neuN; rw [if_pos (by decide)]; exact root_eq (by unfold IsRoot tw; decide)
theorem ex3 : neuN 16 16 0 = 16 := by unfold neuN; rw [if_pos (by decide)]; exact root_eq (by unfold IsRoot tw; decide)
theorem ex4 : neuN 32 16 0 = 28 := by unfold neuN; rw [if_pos (by decide)]; exact root_eq (by unfold IsRoot tw; decide)
theorem ex5 : neuN 3 2 1 = 2 := by unfold neuN; rw [if_pos (by decide)]; exact root_eq (by unfold IsRoot tw; decide)

set_option maxHeartbeats 400000 in
theorem gives_ok (a b c n m : Int) (w0 w : World) (h : Below w0.heap.size w0 w) (h1 : neuN a b c = n) (h2 : worN a b c = m) (h3 : erA a b c = 0) :
    Calls Try.prog 17 #[.int .i64 a, .int .i64 b, .int .i64 c, .int .i64 n, .int .i64 m] w fun e w' => e = .returned (.bool true) ∧ Below w0.heap.size w0 w' := by
  go_enter Try.func17, Try.ntmps17
  go_wp2_with (first
    | (go_at_call 11; refine (neutral_ok _ _ _ w0 _ h).mono ?_; rintro e w1 ⟨rfl, h⟩)
    | (go_at_call 13; refine (worst_ok _ _ _ w0 _ h).mono ?_; rintro e w1 ⟨rfl, h⟩))
  go_ret
  exact ⟨rfl, h⟩

set_option maxHeartbeats 1000000 in
theorem head_ok (w0 w : World) (h : Below w0.heap.size w0 w) :
    Calls Try.prog 10 #[] w fun e w' => e = .returned (.bool true) ∧ Below w0.heap.size w0 w' := by
  have e1 : erA 0 1001 0 = 1 := by decide
  have e2 : erA 0 0 (-1) = 1 := by decide
  go_enter Try.func10, Try.ntmps10
  go_wp2_with fail
  refine (neutral_ok _ _ _ w0 _ h).mono ?_
  rintro e w1 ⟨rfl, h⟩
  go_wp2_with fail
  refine (worst_ok _ _ _ w0 _ h).mono ?_
  rintro e w1 ⟨rfl, h⟩
  go_wp2_with fail
  refine (gives_ok 10 10 10 0 10 w0 _ h ex1 (by decide) (by decide)).mono ?_
  rintro e w1 ⟨rfl, h⟩
  go_wp2_with fail
  refine (gives_ok 16 0 0 16 16 w0 _ h ex2 (by decide) (by decide)).mono ?_
  rintro e w1 ⟨rfl, h⟩
  go_wp2_with fail
  refine (gives_ok 16 16 0 16 16 w0 _ h ex3 (by decide) (by decide)).mono ?_
  rintro e w1 ⟨rfl, h⟩
  go_wp2_with fail
  refine (gives_ok 32 16 0 28 32 w0 _ h ex4 (by decide) (by decide)).mono ?_
  rintro e w1 ⟨rfl, h⟩
  go_wp2_with fail
  refine (gives_ok 3 2 1 2 3 w0 _ h ex5 (by decide) (by decide)).mono ?_
  rintro e w1 ⟨rfl, h⟩
  go_wp2
  go_ret
  exact ⟨rfl, h⟩

def am (n : Int) : Int := n % 1001
theorem am_bd (n : Int) : 0 ≤ am n ∧ am n ≤ 1000 := by unfold am; omega
theorem ampsL (n : Int) (w : World) (h0 : 0 ≤ n) (h1 : n ≤ 65535) : Calls Try.prog 15 #[.int .u16 n] w fun e w' => e = .returned (.int .i64 (am n)) ∧ w = w' := by
  go_enter Try.func15, Try.ntmps15
  go_wp2
  go_ret
  exact ⟨rfl, rfl⟩
theorem mod_bd {u m : Int} (h : 0 < m) : 0 ≤ u % m ∧ u % m ≤ m - 1 := ⟨Int.emod_nonneg _ (by omega), by have := Int.emod_lt_of_pos u h; omega⟩

/-! ### facts on the current -/
theorem nl_bd {a b c : Int} (ha : 0 ≤ a ∧ a ≤ 1000) (hb : 0 ≤ b ∧ b ≤ 1000) (hc : 0 ≤ c ∧ c ≤ 1000) : 0 ≤ nl a b c ∧ nl a b c ≤ 1000 := by
  rw [nl_ok (ok3_mk ha hb hc)]; exact root_bd (ok3_mk ha hb hc)
theorem nl_root {a b c : Int} (ha : 0 ≤ a ∧ a ≤ 1000) (hb : 0 ≤ b ∧ b ≤ 1000) (hc : 0 ≤ c ∧ c ≤ 1000) : IsRoot (tw a b c) (nl a b c) := by
  rw [nl_ok (ok3_mk ha hb hc)]; exact root_is (ok3_mk ha hb hc)
theorem nl_eq {a b c d e f : Int} (ha : 0 ≤ a ∧ a ≤ 1000) (hb : 0 ≤ b ∧ b ≤ 1000) (hc : 0 ≤ c ∧ c ≤ 1000) (hd : 0 ≤ d ∧ d ≤ 1000) (he : 0 ≤ e ∧ e ≤ 1000) (hf : 0 ≤ f ∧ f ≤ 1000) (h : tw a b c = tw d e f) : nl a b c = nl d e f := by
  rw [nl_ok (ok3_mk ha hb hc), nl_ok (ok3_mk hd he hf), h]
theorem nl_spread {a b c lo hi : Int} (ha : 0 ≤ a ∧ a ≤ 1000) (hb : 0 ≤ b ∧ b ≤ 1000) (hc : 0 ≤ c ∧ c ≤ 1000) (h1 : lo ≤ a ∧ a ≤ hi) (h2 : lo ≤ b ∧ b ≤ hi) (h3 : lo ≤ c ∧ c ≤ hi) : nl a b c ≤ hi - lo :=
  (nl_root ha hb hc).le (by omega) (tw_le h1 h2 h3)
theorem nl_one {a : Int} (ha : 0 ≤ a ∧ a ≤ 1000) : nl a 0 0 = a := by
  rw [nl_ok (ok3_mk ha (by omega) (by omega)), tw_one, root_one ha.1]
theorem nl_one2 {a : Int} (ha : 0 ≤ a ∧ a ≤ 1000) : nl 0 a 0 = a := by
  rw [nl_ok (ok3_mk (by omega) ha (by omega)), tw_one2, root_one ha.1]
theorem nl_one3 {a : Int} (ha : 0 ≤ a ∧ a ≤ 1000) : nl 0 0 a = a := by
  rw [nl_ok (ok3_mk (by omega) (by omega) ha), tw_one3, root_one ha.1]
theorem nl_zero {a b c : Int} (ha : 0 ≤ a ∧ a ≤ 1000) (hb : 0 ≤ b ∧ b ≤ 1000) (hc : 0 ≤ c ∧ c ≤ 1000) : nl a b c = 0 ↔ a = b ∧ b = c := by
  have hr := nl_root ha hb hc
  rw [← tw_zero]
  constructor
  · intro h
    rw [h] at hr
    have := hr.2.1
    have := tw_nonneg a b c
    omega
  · intro h
    have : nl a b c ≤ 0 := hr.le (by omega) (by omega)
    have := hr.1
    omega
theorem nl_sum {a b c d e f : Int} (ha : 0 ≤ a ∧ a ≤ 1000) (hb : 0 ≤ b ∧ b ≤ 1000) (hc : 0 ≤ c ∧ c ≤ 1000) (hd : 0 ≤ d ∧ d ≤ 1000) (he : 0 ≤ e ∧ e ≤ 1000) (hf : 0 ≤ f ∧ f ≤ 1000)
    (h1 : 0 ≤ a + d ∧ a + d ≤ 1000) (h2 : 0 ≤ b + e ∧ b + e ≤ 1000) (h3 : 0 ≤ c + f ∧ c + f ≤ 1000) : nl (a + d) (b + e) (c + f) ≤ nl a b c + nl d e f := by
  have r1 := nl_root ha hb hc
  have r2 := nl_root hd he hf
  exact (nl_root h1 h2 h3).le (by have := r1.1; have := r2.1; omega) (tw_sum r1.1 r2.1 r1.2.1 r2.2.1)
/-- what PhasesLeast asks -/
theorem nl_least {a b c : Int} (ha : 0 ≤ a ∧ a ≤ 1000) (hb : 0 ≤ b ∧ b ≤ 1000) (hc : 0 ≤ c ∧ c ≤ 1000) :
    a * a + b * b + c * c - a * b - b * c - c * a ≤ nl a b c * nl a b c ∧ (nl a b c = 0 ∨ (nl a b c - 1) * (nl a b c - 1) < a * a + b * b + c * c - a * b - b * c - c * a) := by
  have hr := nl_root ha hb hc
  have e := tw_eq a b c
  generalize nl a b c = n at *
  have e1 : 2 * n * n = 2 * (n * n) := by rw [Int.mul_assoc]
  have e2 : 2 * (n - 1) * (n - 1) = 2 * ((n - 1) * (n - 1)) := by rw [Int.mul_assoc]
  refine ⟨by have := hr.2.1; omega, ?_⟩
  rcases hr.2.2 with h | h
  · exact .inl h
  · exact .inr (by omega)

/-! ### the laws -/
set_option maxHeartbeats 1000000 in
theorem walk_matches (x : Int) (y : Int) (z : Int) (w : World) :
    Calls Try.prog 3 #[.int .i64 x, .int .i64 y, .int .i64 z] w fun e w' => e = .returned (.bool true) ∧ Below w.heap.size w w' := by
  have h : Below w.heap.size w w := Below.refl _ _
  go_enter Try.func3, Try.ntmps3
  go_wp2_with (first
    | (go_at_call 10; refine (head_ok w _ h).mono ?_; rintro e w1 ⟨rfl, h⟩)
    | (go_at_call 16; refine (neuL _ _ _ w _ h).mono ?_; rintro e w1 ⟨rfl, h⟩)
    | (go_at_call 11; refine (neutral_ok _ _ _ w _ h).mono ?_; rintro e w1 ⟨rfl, h⟩)
    | (go_at_call 13; refine (worst_ok _ _ _ w _ h).mono ?_; rintro e w1 ⟨rfl, h⟩)
    | (go_at_call 12; refine (refNeutral _ _ _ _).mono ?_; rintro e w1 ⟨rfl, rfl⟩)
    | (go_at_call 14; refine (refWorst _ _ _ _).mono ?_; rintro e w1 ⟨rfl, rfl⟩)
    | (go_at_call 15; refine (ampsL _ _ (by omega) (by omega)).mono ?_; rintro e w1 ⟨rfl, rfl⟩))
  go_ret
  exact ⟨by first | rfl | exact ret_bool (by simp; omega), h⟩
set_option maxHeartbeats 1000000 in
theorem least_zero (x : Int) (y : Int) (z : Int) (w : World) (x0 : 0 ≤ x) (x1 : x ≤ 65535) (y0 : 0 ≤ y) (y1 : y ≤ 65535) (z0 : 0 ≤ z) (z1 : z ≤ 65535) (hz : nl (am x) (am y) (am z) = 0) :
    Calls Try.prog 4 #[.int .u16 x, .int .u16 y, .int .u16 z] w fun e w' => e = .returned (.bool true) ∧ Below w.heap.size w w' := by
  have h : Below w.heap.size w w := Below.refl _ _
  have ha := am_bd x
  have hb := am_bd y
  have hc := am_bd z
  have m1 := mul_bd ha ha
  have m2 := mul_bd hb hb
  have m3 := mul_bd hc hc
  have m4 := mul_bd ha hb
  have m5 := mul_bd hb hc
  have m6 := mul_bd hc ha
  have hn := nl_bd ha hb hc
  have hl := nl_least ha hb hc
  have m7 := mul_bd hn hn
  have m8 : 0 ≤ (nl (am x) (am y) (am z) - 1) * (nl (am x) (am y) (am z) - 1) := sq_nonneg _
  have m9 : (nl (am x) (am y) (am z) - 1) * (nl (am x) (am y) (am z) - 1) ≤ 1000000 := sq_le (m := 1000) (by omega) (by omega)
  have t1 : decide (0 ≤ nl (am x) (am y) (am z)) = true := by simp; omega
  have t2 : decide (am x * am x + am y * am y + am z * am z - am x * am y - am y * am z - am z * am x ≤ nl (am x) (am y) (am z) * nl (am x) (am y) (am z)) = true := by simp; omega
  have t3 : (nl (am x) (am y) (am z) == 0) = true := by simpa using hz
  have HZ := Lib.hid hz
  clear hl hz
  go_enter Try.func4, Try.ntmps4
  go_wp2_with (first
    | (go_at_call 10; refine (head_ok w _ h).mono ?_; rintro e w1 ⟨rfl, h⟩)
    | (go_at_call 16; refine (neuL _ _ _ w _ h).mono ?_; rintro e w1 ⟨rfl, h⟩)
    | (go_at_call 11; refine (neutral_ok _ _ _ w _ h).mono ?_; rintro e w1 ⟨rfl, h⟩)
    | (go_at_call 13; refine (worst_ok _ _ _ w _ h).mono ?_; rintro e w1 ⟨rfl, h⟩)
    | (go_at_call 12; refine (refNeutral _ _ _ _).mono ?_; rintro e w1 ⟨rfl, rfl⟩)
    | (go_at_call 14; refine (refWorst _ _ _ _).mono ?_; rintro e w1 ⟨rfl, rfl⟩)
    | (go_at_call 15; refine (ampsL _ _ (by omega) (by omega)).mono ?_; rintro e w1 ⟨rfl, rfl⟩))
  go_ret
  exact ⟨by first | rfl | exact ret_bool (by simp; omega), h⟩
set_option maxHeartbeats 1000000 in
theorem least_more (x : Int) (y : Int) (z : Int) (w : World) (x0 : 0 ≤ x) (x1 : x ≤ 65535) (y0 : 0 ≤ y) (y1 : y ≤ 65535) (z0 : 0 ≤ z) (z1 : z ≤ 65535) (hz : nl (am x) (am y) (am z) ≠ 0) :
    Calls Try.prog 4 #[.int .u16 x, .int .u16 y, .int .u16 z] w fun e w' => e = .returned (.bool true) ∧ Below w.heap.size w w' := by
  have h : Below w.heap.size w w := Below.refl _ _
  have ha := am_bd x
  have hb := am_bd y
  have hc := am_bd z
  have m1 := mul_bd ha ha
  have m2 := mul_bd hb hb
  have m3 := mul_bd hc hc
  have m4 := mul_bd ha hb
  have m5 := mul_bd hb hc
  have m6 := mul_bd hc ha
  have hn := nl_bd ha hb hc
  have hl := nl_least ha hb hc
  have m7 := mul_bd hn hn
  have m8 : 0 ≤ (nl (am x) (am y) (am z) - 1) * (nl (am x) (am y) (am z) - 1) := sq_nonneg _
  have m9 : (nl (am x) (am y) (am z) - 1) * (nl (am x) (am y) (am z) - 1) ≤ 1000000 := sq_le (m := 1000) (by omega) (by omega)
  have t1 : decide (0 ≤ nl (am x) (am y) (am z)) = true := by simp; omega
  have t2 : decide (am x * am x + am y * am y + am z * am z - am x * am y - am y * am z - am z * am x ≤ nl (am x) (am y) (am z) * nl (am x) (am y) (am z)) = true := by simp; omega
  have t3 : (nl (am x) (am y) (am z) == 0) = false := by simpa using hz
  have t4 : decide ((nl (am x) (am y) (am z) - 1) * (nl (am x) (am y) (am z) - 1) < am x * am x + am y * am y + am z * am z - am x * am y - am y * am z - am z * am x) = true := by simp; omega
  clear hl hz
  go_enter Try.func4, Try.ntmps4
  go_wp2_with (first
    | (go_at_call 10; refine (head_ok w _ h).mono ?_; rintro e w1 ⟨rfl, h⟩)
    | (go_at_call 16; refine (neuL _ _ _ w _ h).mono ?_; rintro e w1 ⟨rfl, h⟩)
    | (go_at_call 11; refine (neutral_ok _ _ _ w _ h).mono ?_; rintro e w1 ⟨rfl, h⟩)
    | (go_at_call 13; refine (worst_ok _ _ _ w _ h).mono ?_; rintro e w1 ⟨rfl, h⟩)
    | (go_at_call 12; refine (refNeutral _ _ _ _).mono ?_; rintro e w1 ⟨rfl, rfl⟩)
    | (go_at_call 14; refine (refWorst _ _ _ _).mono ?_; rintro e w1 ⟨rfl, rfl⟩)
    | (go_at_call 15; refine (ampsL _ _ (by omega) (by omega)).mono ?_; rintro e w1 ⟨rfl, rfl⟩))
  go_ret
  exact ⟨by first | rfl | exact ret_bool (by simp; omega), h⟩
theorem walk_least (x : Int) (y : Int) (z : Int) (w : World) (x0 : 0 ≤ x) (x1 : x ≤ 65535) (y0 : 0 ≤ y) (y1 : y ≤ 65535) (z0 : 0 ≤ z) (z1 : z ≤ 65535) :
    Calls Try.prog 4 #[.int .u16 x, .int .u16 y, .int .u16 z] w fun e w' => e = .returned (.bool true) ∧ Below w.heap.size w w' := by
  by_cases hz : nl (am x) (am y) (am z) = 0
  · exact least_zero x y z w x0 x1 y0 y1 z0 z1 hz
  · exact least_more x y z w x0 x1 y0 y1 z0 z1 hz
set_option maxHeartbeats 1000000 in
theorem walk_order (x : Int) (y : Int) (z : Int) (w : World) (x0 : 0 ≤ x) (x1 : x ≤ 65535) (y0 : 0 ≤ y) (y1 : y ≤ 65535) (z0 : 0 ≤ z) (z1 : z ≤ 65535) :
    Calls Try.prog 5 #[.int .u16 x, .int .u16 y, .int .u16 z] w fun e w' => e = .returned (.bool true) ∧ Below w.heap.size w w' := by
  have h : Below w.heap.size w w := Below.refl _ _
  have ha := am_bd x
  have hb := am_bd y
  have hc := am_bd z
  have hn := nl_bd ha hb hc
  have t1 : decide (0 ≤ nl (am x) (am y) (am z)) = true := by simp; omega
  have q1 : nl (am y) (am z) (am x) = nl (am x) (am y) (am z) := nl_eq hb hc ha ha hb hc (tw_rot _ _ _)
  have q2 : nl (am z) (am x) (am y) = nl (am x) (am y) (am z) := nl_eq hc ha hb ha hb hc (tw_rot2 _ _ _)
  have q3 : nl (am y) (am x) (am z) = nl (am x) (am y) (am z) := nl_eq hb ha hc ha hb hc (tw_swap _ _ _)
  have q4 : nl (am x) (am z) (am y) = nl (am x) (am y) (am z) := nl_eq ha hc hb ha hb hc (tw_swap2 _ _ _)
  have q5 : nl (am z) (am y) (am x) = nl (am x) (am y) (am z) := nl_eq hc hb ha ha hb hc (tw_swap3 _ _ _)
  go_enter Try.func5, Try.ntmps5
  go_wp2_with (first
    | (go_at_call 10; refine (head_ok w _ h).mono ?_; rintro e w1 ⟨rfl, h⟩)
    | (go_at_call 16; refine (neuL _ _ _ w _ h).mono ?_; rintro e w1 ⟨rfl, h⟩)
    | (go_at_call 11; refine (neutral_ok _ _ _ w _ h).mono ?_; rintro e w1 ⟨rfl, h⟩)
    | (go_at_call 13; refine (worst_ok _ _ _ w _ h).mono ?_; rintro e w1 ⟨rfl, h⟩)
    | (go_at_call 12; refine (refNeutral _ _ _ _).mono ?_; rintro e w1 ⟨rfl, rfl⟩)
    | (go_at_call 14; refine (refWorst _ _ _ _).mono ?_; rintro e w1 ⟨rfl, rfl⟩)
    | (go_at_call 15; refine (ampsL _ _ (by omega) (by omega)).mono ?_; rintro e w1 ⟨rfl, rfl⟩))
  go_ret
  exact ⟨by first | rfl | exact ret_bool (by simp; omega), h⟩
set_option maxHeartbeats 1000000 in
theorem balance_0_eq (x : Int) (y : Int) (z : Int) (v : Int) (w : World) (x0 : 0 ≤ x) (x1 : x ≤ 65535) (y0 : 0 ≤ y) (y1 : y ≤ 65535) (z0 : 0 ≤ z) (z1 : z ≤ 65535) (v0 : 0 ≤ v) (v1 : v ≤ 65535) (k1 : am y ≤ am x) (k2 : am z ≤ am x) (hq : am x = am y ∧ am y = am z) :
    Calls Try.prog 6 #[.int .u16 x, .int .u16 y, .int .u16 z, .int .u16 v] w fun e w' => e = .returned (.bool true) ∧ Below w.heap.size w w' := by
  have h : Below w.heap.size w w := Below.refl _ _
  have ha := am_bd x
  have hb := am_bd y
  have hc := am_bd z
  have hn := nl_bd ha hb hc
  have hm := mod_bd (u := v) (m := 1001 - am x) (by omega)
  have hz := nl_zero ha hb hc
  have q1 : nl (am x + v % (1001 - am x)) (am y + v % (1001 - am x)) (am z + v % (1001 - am x)) = nl (am x) (am y) (am z) := nl_eq (by omega) (by omega) (by omega) ha hb hc (tw_shift _ _ _ _)
  have t0 : decide (nl (am x) (am y) (am z) < 0) = false := by simp; omega
  have t1 : (nl (am x) (am y) (am z) == 0) = true := by simpa using hz.2 hq
  have t2 : (am x == am y) = true := by simpa using hq.1
  have t3 : (am y == am z) = true := by simpa using hq.2
  have HQ := Lib.hid hq
  clear hz hq
  go_enter Try.func6, Try.ntmps6
  go_wp2_with (first
    | (go_at_call 10; refine (head_ok w _ h).mono ?_; rintro e w1 ⟨rfl, h⟩)
    | (go_at_call 16; refine (neuL _ _ _ w _ h).mono ?_; rintro e w1 ⟨rfl, h⟩)
    | (go_at_call 11; refine (neutral_ok _ _ _ w _ h).mono ?_; rintro e w1 ⟨rfl, h⟩)
    | (go_at_call 13; refine (worst_ok _ _ _ w _ h).mono ?_; rintro e w1 ⟨rfl, h⟩)
    | (go_at_call 12; refine (refNeutral _ _ _ _).mono ?_; rintro e w1 ⟨rfl, rfl⟩)
    | (go_at_call 14; refine (refWorst _ _ _ _).mono ?_; rintro e w1 ⟨rfl, rfl⟩)
    | (go_at_call 15; refine (ampsL _ _ (by omega) (by omega)).mono ?_; rintro e w1 ⟨rfl, rfl⟩))
  go_ret
  exact ⟨by first | rfl | exact ret_bool (by simp; omega), h⟩
set_option maxHeartbeats 1000000 in
theorem balance_0_nea (x : Int) (y : Int) (z : Int) (v : Int) (w : World) (x0 : 0 ≤ x) (x1 : x ≤ 65535) (y0 : 0 ≤ y) (y1 : y ≤ 65535) (z0 : 0 ≤ z) (z1 : z ≤ 65535) (v0 : 0 ≤ v) (v1 : v ≤ 65535) (k1 : am y ≤ am x) (k2 : am z ≤ am x) (hq : ¬ (am x = am y ∧ am y = am z)) (he : am x ≠ am y) :
    Calls Try.prog 6 #[.int .u16 x, .int .u16 y, .int .u16 z, .int .u16 v] w fun e w' => e = .returned (.bool true) ∧ Below w.heap.size w w' := by
  have h : Below w.heap.size w w := Below.refl _ _
  have ha := am_bd x
  have hb := am_bd y
  have hc := am_bd z
  have hn := nl_bd ha hb hc
  have hm := mod_bd (u := v) (m := 1001 - am x) (by omega)
  have hz := nl_zero ha hb hc
  have q1 : nl (am x + v % (1001 - am x)) (am y + v % (1001 - am x)) (am z + v % (1001 - am x)) = nl (am x) (am y) (am z) := nl_eq (by omega) (by omega) (by omega) ha hb hc (tw_shift _ _ _ _)
  have t0 : decide (nl (am x) (am y) (am z) < 0) = false := by simp; omega
  have t1 : (nl (am x) (am y) (am z) == 0) = false := by simpa using mt hz.1 hq
  clear hz
  have t2 : (am x == am y) = false := by simpa using he
  go_enter Try.func6, Try.ntmps6
  go_wp2_with (first
    | (go_at_call 10; refine (head_ok w _ h).mono ?_; rintro e w1 ⟨rfl, h⟩)
    | (go_at_call 16; refine (neuL _ _ _ w _ h).mono ?_; rintro e w1 ⟨rfl, h⟩)
    | (go_at_call 11; refine (neutral_ok _ _ _ w _ h).mono ?_; rintro e w1 ⟨rfl, h⟩)
    | (go_at_call 13; refine (worst_ok _ _ _ w _ h).mono ?_; rintro e w1 ⟨rfl, h⟩)
    | (go_at_call 12; refine (refNeutral _ _ _ _).mono ?_; rintro e w1 ⟨rfl, rfl⟩)
    | (go_at_call 14; refine (refWorst _ _ _ _).mono ?_; rintro e w1 ⟨rfl, rfl⟩)
    | (go_at_call 15; refine (ampsL _ _ (by omega) (by omega)).mono ?_; rintro e w1 ⟨rfl, rfl⟩))
  go_ret
  exact ⟨by first | rfl | exact ret_bool (by simp; omega), h⟩
set_option maxHeartbeats 1000000 in
theorem balance_0_neb (x : Int) (y : Int) (z : Int) (v : Int) (w : World) (x0 : 0 ≤ x) (x1 : x ≤ 65535) (y0 : 0 ≤ y) (y1 : y ≤ 65535) (z0 : 0 ≤ z) (z1 : z ≤ 65535) (v0 : 0 ≤ v) (v1 : v ≤ 65535) (k1 : am y ≤ am x) (k2 : am z ≤ am x) (hq : ¬ (am x = am y ∧ am y = am z)) (he : am x = am y) :
    Calls Try.prog 6 #[.int .u16 x, .int .u16 y, .int .u16 z, .int .u16 v] w fun e w' => e = .returned (.bool true) ∧ Below w.heap.size w w' := by
  have h : Below w.heap.size w w := Below.refl _ _
  have ha := am_bd x
  have hb := am_bd y
  have hc := am_bd z
  have hn := nl_bd ha hb hc
  have hm := mod_bd (u := v) (m := 1001 - am x) (by omega)
  have hz := nl_zero ha hb hc
  have q1 : nl (am x + v % (1001 - am x)) (am y + v % (1001 - am x)) (am z + v % (1001 - am x)) = nl (am x) (am y) (am z) := nl_eq (by omega) (by omega) (by omega) ha hb hc (tw_shift _ _ _ _)
  have t0 : decide (nl (am x) (am y) (am z) < 0) = false := by simp; omega
  have t1 : (nl (am x) (am y) (am z) == 0) = false := by simpa using mt hz.1 hq
  clear hz
  have t2 : (am x == am y) = true := by simpa using he
  have t3 : (am y == am z) = false := by simp; omega
  have HE := Lib.hid he
  clear he hq
  go_enter Try.func6, Try.ntmps6
  go_wp2_with (first
    | (go_at_call 10; refine (head_ok w _ h).mono ?_; rintro e w1 ⟨rfl, h⟩)
    | (go_at_call 16; refine (neuL _ _ _ w _ h).mono ?_; rintro e w1 ⟨rfl, h⟩)
    | (go_at_call 11; refine (neutral_ok _ _ _ w _ h).mono ?_; rintro e w1 ⟨rfl, h⟩)
    | (go_at_call 13; refine (worst_ok _ _ _ w _ h).mono ?_; rintro e w1 ⟨rfl, h⟩)
    | (go_at_call 12; refine (refNeutral _ _ _ _).mono ?_; rintro e w1 ⟨rfl, rfl⟩)
    | (go_at_call 14; refine (refWorst _ _ _ _).mono ?_; rintro e w1 ⟨rfl, rfl⟩)
    | (go_at_call 15; refine (ampsL _ _ (by omega) (by omega)).mono ?_; rintro e w1 ⟨rfl, rfl⟩))
  go_ret
  exact ⟨by first | rfl | exact ret_bool (by simp; omega), h⟩
set_option maxHeartbeats 1000000 in
theorem balance_1_nea (x : Int) (y : Int) (z : Int) (v : Int) (w : World) (x0 : 0 ≤ x) (x1 : x ≤ 65535) (y0 : 0 ≤ y) (y1 : y ≤ 65535) (z0 : 0 ≤ z) (z1 : z ≤ 65535) (v0 : 0 ≤ v) (v1 : v ≤ 65535) (k1 : am x < am y) (k2 : am z ≤ am y) (hq : ¬ (am x = am y ∧ am y = am z)) (he : am x ≠ am y) :
    Calls Try.prog 6 #[.int .u16 x, .int .u16 y, .int .u16 z, .int .u16 v] w fun e w' => e = .returned (.bool true) ∧ Below w.heap.size w w' := by
  have h : Below w.heap.size w w := Below.refl _ _
  have ha := am_bd x
  have hb := am_bd y
  have hc := am_bd z
  have hn := nl_bd ha hb hc
  have hm := mod_bd (u := v) (m := 1001 - am y) (by omega)
  have hz := nl_zero ha hb hc
  have q1 : nl (am x + v % (1001 - am y)) (am y + v % (1001 - am y)) (am z + v % (1001 - am y)) = nl (am x) (am y) (am z) := nl_eq (by omega) (by omega) (by omega) ha hb hc (tw_shift _ _ _ _)
  have t0 : decide (nl (am x) (am y) (am z) < 0) = false := by simp; omega
  have t1 : (nl (am x) (am y) (am z) == 0) = false := by simpa using mt hz.1 hq
  clear hz
  have t2 : (am x == am y) = false := by simpa using he
  go_enter Try.func6, Try.ntmps6
  go_wp2_with (first
    | (go_at_call 10; refine (head_ok w _ h).mono ?_; rintro e w1 ⟨rfl, h⟩)
    | (go_at_call 16; refine (neuL _ _ _ w _ h).mono ?_; rintro e w1 ⟨rfl, h⟩)
    | (go_at_call 11; refine (neutral_ok _ _ _ w _ h).mono ?_; rintro e w1 ⟨rfl, h⟩)
    | (go_at_call 13; refine (worst_ok _ _ _ w _ h).mono ?_; rintro e w1 ⟨rfl, h⟩)
    | (go_at_call 12; refine (refNeutral _ _ _ _).mono ?_; rintro e w1 ⟨rfl, rfl⟩)
    | (go_at_call 14; refine (refWorst _ _ _ _).mono ?_; rintro e w1 ⟨rfl, rfl⟩)
    | (go_at_call 15; refine (ampsL _ _ (by omega) (by omega)).mono ?_; rintro e w1 ⟨rfl, rfl⟩))
  go_ret
  exact ⟨by first | rfl | exact ret_bool (by simp; omega), h⟩
set_option maxHeartbeats 1000000 in
theorem balance_1_neb (x : Int) (y : Int) (z : Int) (v : Int) (w : World) (x0 : 0 ≤ x) (x1 : x ≤ 65535) (y0 : 0 ≤ y) (y1 : y ≤ 65535) (z0 : 0 ≤ z) (z1 : z ≤ 65535) (v0 : 0 ≤ v) (v1 : v ≤ 65535) (k1 : am x < am y) (k2 : am z ≤ am y) (hq : ¬ (am x = am y ∧ am y = am z)) (he : am x = am y) :
    Calls Try.prog 6 #[.int .u16 x, .int .u16 y, .int .u16 z, .int .u16 v] w fun e w' => e = .returned (.bool true) ∧ Below w.heap.size w w' := by
  have h : Below w.heap.size w w := Below.refl _ _
  have ha := am_bd x
  have hb := am_bd y
  have hc := am_bd z
  have hn := nl_bd ha hb hc
  have hm := mod_bd (u := v) (m := 1001 - am y) (by omega)
  have hz := nl_zero ha hb hc
  have q1 : nl (am x + v % (1001 - am y)) (am y + v % (1001 - am y)) (am z + v % (1001 - am y)) = nl (am x) (am y) (am z) := nl_eq (by omega) (by omega) (by omega) ha hb hc (tw_shift _ _ _ _)
  have t0 : decide (nl (am x) (am y) (am z) < 0) = false := by simp; omega
  have t1 : (nl (am x) (am y) (am z) == 0) = false := by simpa using mt hz.1 hq
  clear hz
  have t2 : (am x == am y) = true := by simpa using he
  have t3 : (am y == am z) = false := by simp; omega
  have HE := Lib.hid he
  clear he hq
  go_enter Try.func6, Try.ntmps6
  go_wp2_with (first
    | (go_at_call 10; refine (head_ok w _ h).mono ?_; rintro e w1 ⟨rfl, h⟩)
    | (go_at_call 16; refine (neuL _ _ _ w _ h).mono ?_; rintro e w1 ⟨rfl, h⟩)
    | (go_at_call 11; refine (neutral_ok _ _ _ w _ h).mono ?_; rintro e w1 ⟨rfl, h⟩)
    | (go_at_call 13; refine (worst_ok _ _ _ w _ h).mono ?_; rintro e w1 ⟨rfl, h⟩)
    | (go_at_call 12; refine (refNeutral _ _ _ _).mono ?_; rintro e w1 ⟨rfl, rfl⟩)
    | (go_at_call 14; refine (refWorst _ _ _ _).mono ?_; rintro e w1 ⟨rfl, rfl⟩)
    | (go_at_call 15; refine (ampsL _ _ (by omega) (by omega)).mono ?_; rintro e w1 ⟨rfl, rfl⟩))
  go_ret
  exact ⟨by first | rfl | exact ret_bool (by simp; omega), h⟩
set_option maxHeartbeats 1000000 in
theorem balance_2_nea (x : Int) (y : Int) (z : Int) (v : Int) (w : World) (x0 : 0 ≤ x) (x1 : x ≤ 65535) (y0 : 0 ≤ y) (y1 : y ≤ 65535) (z0 : 0 ≤ z) (z1 : z ≤ 65535) (v0 : 0 ≤ v) (v1 : v ≤ 65535) (k1 : am x < am z) (k2 : am y < am z) (hq : ¬ (am x = am y ∧ am y = am z)) (he : am x ≠ am y) :
    Calls Try.prog 6 #[.int .u16 x, .int .u16 y, .int .u16 z, .int .u16 v] w fun e w' => e = .returned (.bool true) ∧ Below w.heap.size w w' := by
  have h : Below w.heap.size w w := Below.refl _ _
  have ha := am_bd x
  have hb := am_bd y
  have hc := am_bd z
  have hn := nl_bd ha hb hc
  have hm := mod_bd (u := v) (m := 1001 - am z) (by omega)
  have hz := nl_zero ha hb hc
  have q1 : nl (am x + v % (1001 - am z)) (am y + v % (1001 - am z)) (am z + v % (1001 - am z)) = nl (am x) (am y) (am z) := nl_eq (by omega) (by omega) (by omega) ha hb hc (tw_shift _ _ _ _)
  have t0 : decide (nl (am x) (am y) (am z) < 0) = false := by simp; omega
  have t1 : (nl (am x) (am y) (am z) == 0) = false := by simpa using mt hz.1 hq
  clear hz
  have t2 : (am x == am y) = false := by simpa using he
  go_enter Try.func6, Try.ntmps6
  go_wp2_with (first
    | (go_at_call 10; refine (head_ok w _ h).mono ?_; rintro e w1 ⟨rfl, h⟩)
    | (go_at_call 16; refine (neuL _ _ _ w _ h).mono ?_; rintro e w1 ⟨rfl, h⟩)
    | (go_at_call 11; refine (neutral_ok _ _ _ w _ h).mono ?_; rintro e w1 ⟨rfl, h⟩)
    | (go_at_call 13; refine (worst_ok _ _ _ w _ h).mono ?_; rintro e w1 ⟨rfl, h⟩)
    | (go_at_call 12; refine (refNeutral _ _ _ _).mono ?_; rintro e w1 ⟨rfl, rfl⟩)
    | (go_at_call 14; refine (refWorst _ _ _ _).mono ?_; rintro e w1 ⟨rfl, rfl⟩)
    | (go_at_call 15; refine (ampsL _ _ (by omega) (by omega)).mono ?_; rintro e w1 ⟨rfl, rfl⟩))
  go_ret
  exact ⟨by first | rfl | exact ret_bool (by simp; omega), h⟩
set_option maxHeartbeats 1000000 in
theorem balance_2_neb (x : Int) (y : Int) (z : Int) (v : Int) (w : World) (x0 : 0 ≤ x) (x1 : x ≤ 65535) (y0 : 0 ≤ y) (y1 : y ≤ 65535) (z0 : 0 ≤ z) (z1 : z ≤ 65535) (v0 : 0 ≤ v) (v1 : v ≤ 65535) (k1 : am x < am z) (k2 : am y < am z) (hq : ¬ (am x = am y ∧ am y = am z)) (he : am x = am y) :
    Calls Try.prog 6 #[.int .u16 x, .int .u16 y, .int .u16 z, .int .u16 v] w fun e w' => e = .returned (.bool true) ∧ Below w.heap.size w w' := by
  have h : Below w.heap.size w w := Below.refl _ _
  have ha := am_bd x
  have hb := am_bd y
  have hc := am_bd z
  have hn := nl_bd ha hb hc
  have hm := mod_bd (u := v) (m := 1001 - am z) (by omega)
  have hz := nl_zero ha hb hc
  have q1 : nl (am x + v % (1001 - am z)) (am y + v % (1001 - am z)) (am z + v % (1001 - am z)) = nl (am x) (am y) (am z) := nl_eq (by omega) (by omega) (by omega) ha hb hc (tw_shift _ _ _ _)
  have t0 : decide (nl (am x) (am y) (am z) < 0) = false := by simp; omega
  have t1 : (nl (am x) (am y) (am z) == 0) = false := by simpa using mt hz.1 hq
  clear hz
  have t2 : (am x == am y) = true := by simpa using he
  have t3 : (am y == am z) = false := by simp; omega
  have HE := Lib.hid he
  clear he hq
  go_enter Try.func6, Try.ntmps6
  go_wp2_with (first
    | (go_at_call 10; refine (head_ok w _ h).mono ?_; rintro e w1 ⟨rfl, h⟩)
    | (go_at_call 16; refine (neuL _ _ _ w _ h).mono ?_; rintro e w1 ⟨rfl, h⟩)
    | (go_at_call 11; refine (neutral_ok _ _ _ w _ h).mono ?_; rintro e w1 ⟨rfl, h⟩)
    | (go_at_call 13; refine (worst_ok _ _ _ w _ h).mono ?_; rintro e w1 ⟨rfl, h⟩)
    | (go_at_call 12; refine (refNeutral _ _ _ _).mono ?_; rintro e w1 ⟨rfl, rfl⟩)
    | (go_at_call 14; refine (refWorst _ _ _ _).mono ?_; rintro e w1 ⟨rfl, rfl⟩)
    | (go_at_call 15; refine (ampsL _ _ (by omega) (by omega)).mono ?_; rintro e w1 ⟨rfl, rfl⟩))
  go_ret
  exact ⟨by first | rfl | exact ret_bool (by simp; omega), h⟩
theorem walk_balance (x : Int) (y : Int) (z : Int) (v : Int) (w : World) (x0 : 0 ≤ x) (x1 : x ≤ 65535) (y0 : 0 ≤ y) (y1 : y ≤ 65535) (z0 : 0 ≤ z) (z1 : z ≤ 65535) (v0 : 0 ≤ v) (v1 : v ≤ 65535) :
    Calls Try.prog 6 #[.int .u16 x, .int .u16 y, .int .u16 z, .int .u16 v] w fun e w' => e = .returned (.bool true) ∧ Below w.heap.size w w' := by
  by_cases hq : am x = am y ∧ am y = am z
  · exact balance_0_eq x y z v w x0 x1 y0 y1 z0 z1 v0 v1 (by omega) (by omega) hq
  · by_cases he : am x = am y
    · rcases (by omega : (am y ≤ am x ∧ am z ≤ am x) ∨ (am x < am y ∧ am z ≤ am y) ∨ (am x < am z ∧ am y < am z)) with hk | hk | hk
      · exact balance_0_neb x y z v w x0 x1 y0 y1 z0 z1 v0 v1 hk.1 hk.2 hq he
      · exact balance_1_neb x y z v w x0 x1 y0 y1 z0 z1 v0 v1 hk.1 hk.2 hq he
      · exact balance_2_neb x y z v w x0 x1 y0 y1 z0 z1 v0 v1 hk.1 hk.2 hq he
    · rcases (by omega : (am y ≤ am x ∧ am z ≤ am x) ∨ (am x < am y ∧ am z ≤ am y) ∨ (am x < am z ∧ am y < am z)) with hk | hk | hk
      · exact balance_0_nea x y z v w x0 x1 y0 y1 z0 z1 v0 v1 hk.1 hk.2 hq he
      · exact balance_1_nea x y z v w x0 x1 y0 y1 z0 z1 v0 v1 hk.1 hk.2 hq he
      · exact balance_2_nea x y z v w x0 x1 y0 y1 z0 z1 v0 v1 hk.1 hk.2 hq he
set_option maxHeartbeats 1000000 in
theorem one_0_0 (x : Int) (y : Int) (z : Int) (w : World) (x0 : 0 ≤ x) (x1 : x ≤ 65535) (y0 : 0 ≤ y) (y1 : y ≤ 65535) (z0 : 0 ≤ z) (z1 : z ≤ 65535) (k1 : am y ≤ am x) (k2 : am z ≤ am x) (k3 : am x ≤ am y) (k4 : am x ≤ am z) :
    Calls Try.prog 7 #[.int .u16 x, .int .u16 y, .int .u16 z] w fun e w' => e = .returned (.bool true) ∧ Below w.heap.size w w' := by
  have h : Below w.heap.size w w := Below.refl _ _
  have ha := am_bd x
  have hb := am_bd y
  have hc := am_bd z
  have hn := nl_bd ha hb hc
  have t1 : decide (0 ≤ nl (am x) (am y) (am z)) = true := by simp; omega
  have q1 := nl_one ha
  have q2 : nl (am x) (am y) (am z) ≤ am x - am x := nl_spread ha hb hc (by omega) (by omega) (by omega)
  go_enter Try.func7, Try.ntmps7
  go_wp2_with (first
    | (go_at_call 10; refine (head_ok w _ h).mono ?_; rintro e w1 ⟨rfl, h⟩)
    | (go_at_call 16; refine (neuL _ _ _ w _ h).mono ?_; rintro e w1 ⟨rfl, h⟩)
    | (go_at_call 11; refine (neutral_ok _ _ _ w _ h).mono ?_; rintro e w1 ⟨rfl, h⟩)
    | (go_at_call 13; refine (worst_ok _ _ _ w _ h).mono ?_; rintro e w1 ⟨rfl, h⟩)
    | (go_at_call 12; refine (refNeutral _ _ _ _).mono ?_; rintro e w1 ⟨rfl, rfl⟩)
    | (go_at_call 14; refine (refWorst _ _ _ _).mono ?_; rintro e w1 ⟨rfl, rfl⟩)
    | (go_at_call 15; refine (ampsL _ _ (by omega) (by omega)).mono ?_; rintro e w1 ⟨rfl, rfl⟩))
  go_ret
  exact ⟨by first | rfl | exact ret_bool (by simp; omega), h⟩
set_option maxHeartbeats 1000000 in
theorem one_0_1 (x : Int) (y : Int) (z : Int) (w : World) (x0 : 0 ≤ x) (x1 : x ≤ 65535) (y0 : 0 ≤ y) (y1 : y ≤ 65535) (z0 : 0 ≤ z) (z1 : z ≤ 65535) (k1 : am y ≤ am x) (k2 : am z ≤ am x) (k3 : am y < am x) (k4 : am y ≤ am z) :
    Calls Try.prog 7 #[.int .u16 x, .int .u16 y, .int .u16 z] w fun e w' => e = .returned (.bool true) ∧ Below w.heap.size w w' := by
  have h : Below w.heap.size w w := Below.refl _ _
  have ha := am_bd x
  have hb := am_bd y
  have hc := am_bd z
  have hn := nl_bd ha hb hc
  have t1 : decide (0 ≤ nl (am x) (am y) (am z)) = true := by simp; omega
  have q1 := nl_one ha
  have q2 : nl (am x) (am y) (am z) ≤ am x - am y := nl_spread ha hb hc (by omega) (by omega) (by omega)
  go_enter Try.func7, Try.ntmps7
  go_wp2_with (first
    | (go_at_call 10; refine (head_ok w _ h).mono ?_; rintro e w1 ⟨rfl, h⟩)
    | (go_at_call 16; refine (neuL _ _ _ w _ h).mono ?_; rintro e w1 ⟨rfl, h⟩)
    | (go_at_call 11; refine (neutral_ok _ _ _ w _ h).mono ?_; rintro e w1 ⟨rfl, h⟩)
    | (go_at_call 13; refine (worst_ok _ _ _ w _ h).mono ?_; rintro e w1 ⟨rfl, h⟩)
    | (go_at_call 12; refine (refNeutral _ _ _ _).mono ?_; rintro e w1 ⟨rfl, rfl⟩)
    | (go_at_call 14; refine (refWorst _ _ _ _).mono ?_; rintro e w1 ⟨rfl, rfl⟩)
    | (go_at_call 15; refine (ampsL _ _ (by omega) (by omega)).mono ?_; rintro e w1 ⟨rfl, rfl⟩))
  go_ret
  exact ⟨by first | rfl | exact ret_bool (by simp; omega), h⟩
set_option maxHeartbeats 1000000 in
theorem one_0_2 (x : Int) (y : Int) (z : Int) (w : World) (x0 : 0 ≤ x) (x1 : x ≤ 65535) (y0 : 0 ≤ y) (y1 : y ≤ 65535) (z0 : 0 ≤ z) (z1 : z ≤ 65535) (k1 : am y ≤ am x) (k2 : am z ≤ am x) (k3 : am z < am x) (k4 : am z < am y) :
    Calls Try.prog 7 #[.int .u16 x, .int .u16 y, .int .u16 z] w fun e w' => e = .returned (.bool true) ∧ Below w.heap.size w w' := by
  have h : Below w.heap.size w w := Below.refl _ _
  have ha := am_bd x
  have hb := am_bd y
  have hc := am_bd z
  have hn := nl_bd ha hb hc
  have t1 : decide (0 ≤ nl (am x) (am y) (am z)) = true := by simp; omega
  have q1 := nl_one ha
  have q2 : nl (am x) (am y) (am z) ≤ am x - am z := nl_spread ha hb hc (by omega) (by omega) (by omega)
  go_enter Try.func7, Try.ntmps7
  go_wp2_with (first
    | (go_at_call 10; refine (head_ok w _ h).mono ?_; rintro e w1 ⟨rfl, h⟩)
    | (go_at_call 16; refine (neuL _ _ _ w _ h).mono ?_; rintro e w1 ⟨rfl, h⟩)
    | (go_at_call 11; refine (neutral_ok _ _ _ w _ h).mono ?_; rintro e w1 ⟨rfl, h⟩)
    | (go_at_call 13; refine (worst_ok _ _ _ w _ h).mono ?_; rintro e w1 ⟨rfl, h⟩)
    | (go_at_call 12; refine (refNeutral _ _ _ _).mono ?_; rintro e w1 ⟨rfl, rfl⟩)
    | (go_at_call 14; refine (refWorst _ _ _ _).mono ?_; rintro e w1 ⟨rfl, rfl⟩)
    | (go_at_call 15; refine (ampsL _ _ (by omega) (by omega)).mono ?_; rintro e w1 ⟨rfl, rfl⟩))
  go_ret
  exact ⟨by first | rfl | exact ret_bool (by simp; omega), h⟩
set_option maxHeartbeats 1000000 in
theorem one_1_0 (x : Int) (y : Int) (z : Int) (w : World) (x0 : 0 ≤ x) (x1 : x ≤ 65535) (y0 : 0 ≤ y) (y1 : y ≤ 65535) (z0 : 0 ≤ z) (z1 : z ≤ 65535) (k1 : am x < am y) (k2 : am z ≤ am y) (k3 : am x ≤ am y) (k4 : am x ≤ am z) :
    Calls Try.prog 7 #[.int .u16 x, .int .u16 y, .int .u16 z] w fun e w' => e = .returned (.bool true) ∧ Below w.heap.size w w' := by
  have h : Below w.heap.size w w := Below.refl _ _
  have ha := am_bd x
  have hb := am_bd y
  have hc := am_bd z
  have hn := nl_bd ha hb hc
  have t1 : decide (0 ≤ nl (am x) (am y) (am z)) = true := by simp; omega
  have q1 := nl_one ha
  have q2 : nl (am x) (am y) (am z) ≤ am y - am x := nl_spread ha hb hc (by omega) (by omega) (by omega)
  go_enter Try.func7, Try.ntmps7
  go_wp2_with (first
    | (go_at_call 10; refine (head_ok w _ h).mono ?_; rintro e w1 ⟨rfl, h⟩)
    | (go_at_call 16; refine (neuL _ _ _ w _ h).mono ?_; rintro e w1 ⟨rfl, h⟩)
    | (go_at_call 11; refine (neutral_ok _ _ _ w _ h).mono ?_; rintro e w1 ⟨rfl, h⟩)
    | (go_at_call 13; refine (worst_ok _ _ _ w _ h).mono ?_; rintro e w1 ⟨rfl, h⟩)
    | (go_at_call 12; refine (refNeutral _ _ _ _).mono ?_; rintro e w1 ⟨rfl, rfl⟩)
    | (go_at_call 14; refine (refWorst _ _ _ _).mono ?_; rintro e w1 ⟨rfl, rfl⟩)
    | (go_at_call 15; refine (ampsL _ _ (by omega) (by omega)).mono ?_; rintro e w1 ⟨rfl, rfl⟩))
  go_ret
  exact ⟨by first | rfl | exact ret_bool (by simp; omega), h⟩
set_option maxHeartbeats 1000000 in
theorem one_1_1 (x : Int) (y : Int) (z : Int) (w : World) (x0 : 0 ≤ x) (x1 : x ≤ 65535) (y0 : 0 ≤ y) (y1 : y ≤ 65535) (z0 : 0 ≤ z) (z1 : z ≤ 65535) (k1 : am x < am y) (k2 : am z ≤ am y) (k3 : am y < am x) (k4 : am y ≤ am z) :
    Calls Try.prog 7 #[.int .u16 x, .int .u16 y, .int .u16 z] w fun e w' => e = .returned (.bool true) ∧ Below w.heap.size w w' := by
  have h : Below w.heap.size w w := Below.refl _ _
  have ha := am_bd x
  have hb := am_bd y
  have hc := am_bd z
  have hn := nl_bd ha hb hc
  have t1 : decide (0 ≤ nl (am x) (am y) (am z)) = true := by simp; omega
  have q1 := nl_one ha
  have q2 : nl (am x) (am y) (am z) ≤ am y - am y := nl_spread ha hb hc (by omega) (by omega) (by omega)
  go_enter Try.func7, Try.ntmps7
  go_wp2_with (first
    | (go_at_call 10; refine (head_ok w _ h).mono ?_; rintro e w1 ⟨rfl, h⟩)
    | (go_at_call 16; refine (neuL _ _ _ w _ h).mono ?_; rintro e w1 ⟨rfl, h⟩)
    | (go_at_call 11; refine (neutral_ok _ _ _ w _ h).mono ?_; rintro e w1 ⟨rfl, h⟩)
    | (go_at_call 13; refine (worst_ok _ _ _ w _ h).mono ?_; rintro e w1 ⟨rfl, h⟩)
    | (go_at_call 12; refine (refNeutral _ _ _ _).mono ?_; rintro e w1 ⟨rfl, rfl⟩)
    | (go_at_call 14; refine (refWorst _ _ _ _).mono ?_; rintro e w1 ⟨rfl, rfl⟩)
    | (go_at_call 15; refine (ampsL _ _ (by omega) (by omega)).mono ?_; rintro e w1 ⟨rfl, rfl⟩))
  go_ret
  exact ⟨by first | rfl | exact ret_bool (by simp; omega), h⟩
set_option maxHeartbeats 1000000 in
theorem one_1_2 (x : Int) (y : Int) (z : Int) (w : World) (x0 : 0 ≤ x) (x1 : x ≤ 65535) (y0 : 0 ≤ y) (y1 : y ≤ 65535) (z0 : 0 ≤ z) (z1 : z ≤ 65535) (k1 : am x < am y) (k2 : am z ≤ am y) (k3 : am z < am x) (k4 : am z < am y) :
    Calls Try.prog 7 #[.int .u16 x, .int .u16 y, .int .u16 z] w fun e w' => e = .returned (.bool true) ∧ Below w.heap.size w w' := by
  have h : Below w.heap.size w w := Below.refl _ _
  have ha := am_bd x
  have hb := am_bd y
  have hc := am_bd z
  have hn := nl_bd ha hb hc
  have t1 : decide (0 ≤ nl (am x) (am y) (am z)) = true := by simp; omega
  have q1 := nl_one ha
  have q2 : nl (am x) (am y) (am z) ≤ am y - am z := nl_spread ha hb hc (by omega) (by omega) (by omega)
  go_enter Try.func7, Try.ntmps7
  go_wp2_with (first
    | (go_at_call 10; refine (head_ok w _ h).mono ?_; rintro e w1 ⟨rfl, h⟩)
    | (go_at_call 16; refine (neuL _ _ _ w _ h).mono ?_; rintro e w1 ⟨rfl, h⟩)
    | (go_at_call 11; refine (neutral_ok _ _ _ w _ h).mono ?_; rintro e w1 ⟨rfl, h⟩)
    | (go_at_call 13; refine (worst_ok _ _ _ w _ h).mono ?_; rintro e w1 ⟨rfl, h⟩)
    | (go_at_call 12; refine (refNeutral _ _ _ _).mono ?_; rintro e w1 ⟨rfl, rfl⟩)
    | (go_at_call 14; refine (refWorst _ _ _ _).mono ?_; rintro e w1 ⟨rfl, rfl⟩)
    | (go_at_call 15; refine (ampsL _ _ (by omega) (by omega)).mono ?_; rintro e w1 ⟨rfl, rfl⟩))
  go_ret
  exact ⟨by first | rfl | exact ret_bool (by simp; omega), h⟩
set_option maxHeartbeats 1000000 in
theorem one_2_0 (x : Int) (y : Int) (z : Int) (w : World) (x0 : 0 ≤ x) (x1 : x ≤ 65535) (y0 : 0 ≤ y) (y1 : y ≤ 65535) (z0 : 0 ≤ z) (z1 : z ≤ 65535) (k1 : am x < am z) (k2 : am y < am z) (k3 : am x ≤ am y) (k4 : am x ≤ am z) :
    Calls Try.prog 7 #[.int .u16 x, .int .u16 y, .int .u16 z] w fun e w' => e = .returned (.bool true) ∧ Below w.heap.size w w' := by
  have h : Below w.heap.size w w := Below.refl _ _
  have ha := am_bd x
  have hb := am_bd y
  have hc := am_bd z
  have hn := nl_bd ha hb hc
  have t1 : decide (0 ≤ nl (am x) (am y) (am z)) = true := by simp; omega
  have q1 := nl_one ha
  have q2 : nl (am x) (am y) (am z) ≤ am z - am x := nl_spread ha hb hc (by omega) (by omega) (by omega)
  go_enter Try.func7, Try.ntmps7
  go_wp2_with (first
    | (go_at_call 10; refine (head_ok w _ h).mono ?_; rintro e w1 ⟨rfl, h⟩)
    | (go_at_call 16; refine (neuL _ _ _ w _ h).mono ?_; rintro e w1 ⟨rfl, h⟩)
    | (go_at_call 11; refine (neutral_ok _ _ _ w _ h).mono ?_; rintro e w1 ⟨rfl, h⟩)
    | (go_at_call 13; refine (worst_ok _ _ _ w _ h).mono ?_; rintro e w1 ⟨rfl, h⟩)
    | (go_at_call 12; refine (refNeutral _ _ _ _).mono ?_; rintro e w1 ⟨rfl, rfl⟩)
    | (go_at_call 14; refine (refWorst _ _ _ _).mono ?_; rintro e w1 ⟨rfl, rfl⟩)
    | (go_at_call 15; refine (ampsL _ _ (by omega) (by omega)).mono ?_; rintro e w1 ⟨rfl, rfl⟩))
  go_ret
  exact ⟨by first | rfl | exact ret_bool (by simp; omega), h⟩
set_option maxHeartbeats 1000000 in
theorem one_2_1 (x : Int) (y : Int) (z : Int) (w : World) (x0 : 0 ≤ x) (x1 : x ≤ 65535) (y0 : 0 ≤ y) (y1 : y ≤ 65535) (z0 : 0 ≤ z) (z1 : z ≤ 65535) (k1 : am x < am z) (k2 : am y < am z) (k3 : am y < am x) (k4 : am y ≤ am z) :
    Calls Try.prog 7 #[.int .u16 x, .int .u16 y, .int .u16 z] w fun e w' => e = .returned (.bool true) ∧ Below w.heap.size w w' := by
  have h : Below w.heap.size w w := Below.refl _ _
  have ha := am_bd x
  have hb := am_bd y
  have hc := am_bd z
  have hn := nl_bd ha hb hc
  have t1 : decide (0 ≤ nl (am x) (am y) (am z)) = true := by simp; omega
  have q1 := nl_one ha
  have q2 : nl (am x) (am y) (am z) ≤ am z - am y := nl_spread ha hb hc (by omega) (by omega) (by omega)
  go_enter Try.func7, Try.ntmps7
  go_wp2_with (first
    | (go_at_call 10; refine (head_ok w _ h).mono ?_; rintro e w1 ⟨rfl, h⟩)
    | (go_at_call 16; refine (neuL _ _ _ w _ h).mono ?_; rintro e w1 ⟨rfl, h⟩)
    | (go_at_call 11; refine (neutral_ok _ _ _ w _ h).mono ?_; rintro e w1 ⟨rfl, h⟩)
    | (go_at_call 13; refine (worst_ok _ _ _ w _ h).mono ?_; rintro e w1 ⟨rfl, h⟩)
    | (go_at_call 12; refine (refNeutral _ _ _ _).mono ?_; rintro e w1 ⟨rfl, rfl⟩)
    | (go_at_call 14; refine (refWorst _ _ _ _).mono ?_; rintro e w1 ⟨rfl, rfl⟩)
    | (go_at_call 15; refine (ampsL _ _ (by omega) (by omega)).mono ?_; rintro e w1 ⟨rfl, rfl⟩))
  go_ret
  exact ⟨by first | rfl | exact ret_bool (by simp; omega), h⟩
set_option maxHeartbeats 1000000 in
theorem one_2_2 (x : Int) (y : Int) (z : Int) (w : World) (x0 : 0 ≤ x) (x1 : x ≤ 65535) (y0 : 0 ≤ y) (y1 : y ≤ 65535) (z0 : 0 ≤ z) (z1 : z ≤ 65535) (k1 : am x < am z) (k2 : am y < am z) (k3 : am z < am x) (k4 : am z < am y) :
    Calls Try.prog 7 #[.int .u16 x, .int .u16 y, .int .u16 z] w fun e w' => e = .returned (.bool true) ∧ Below w.heap.size w w' := by
  have h : Below w.heap.size w w := Below.refl _ _
  have ha := am_bd x
  have hb := am_bd y
  have hc := am_bd z
  have hn := nl_bd ha hb hc
  have t1 : decide (0 ≤ nl (am x) (am y) (am z)) = true := by simp; omega
  have q1 := nl_one ha
  have q2 : nl (am x) (am y) (am z) ≤ am z - am z := nl_spread ha hb hc (by omega) (by omega) (by omega)
  go_enter Try.func7, Try.ntmps7
  go_wp2_with (first
    | (go_at_call 10; refine (head_ok w _ h).mono ?_; rintro e w1 ⟨rfl, h⟩)
    | (go_at_call 16; refine (neuL _ _ _ w _ h).mono ?_; rintro e w1 ⟨rfl, h⟩)
    | (go_at_call 11; refine (neutral_ok _ _ _ w _ h).mono ?_; rintro e w1 ⟨rfl, h⟩)
    | (go_at_call 13; refine (worst_ok _ _ _ w _ h).mono ?_; rintro e w1 ⟨rfl, h⟩)
    | (go_at_call 12; refine (refNeutral _ _ _ _).mono ?_; rintro e w1 ⟨rfl, rfl⟩)
    | (go_at_call 14; refine (refWorst _ _ _ _).mono ?_; rintro e w1 ⟨rfl, rfl⟩)
    | (go_at_call 15; refine (ampsL _ _ (by omega) (by omega)).mono ?_; rintro e w1 ⟨rfl, rfl⟩))
  go_ret
  exact ⟨by first | rfl | exact ret_bool (by simp; omega), h⟩
theorem walk_one (x : Int) (y : Int) (z : Int) (w : World) (x0 : 0 ≤ x) (x1 : x ≤ 65535) (y0 : 0 ≤ y) (y1 : y ≤ 65535) (z0 : 0 ≤ z) (z1 : z ≤ 65535) :
    Calls Try.prog 7 #[.int .u16 x, .int .u16 y, .int .u16 z] w fun e w' => e = .returned (.bool true) ∧ Below w.heap.size w w' := by
  rcases (by omega : (am y ≤ am x ∧ am z ≤ am x) ∨ (am x < am y ∧ am z ≤ am y) ∨ (am x < am z ∧ am y < am z)) with hk | hk | hk <;> rcases (by omega : (am x ≤ am y ∧ am x ≤ am z) ∨ (am y < am x ∧ am y ≤ am z) ∨ (am z < am x ∧ am z < am y)) with hl | hl | hl
  · exact one_0_0 x y z w x0 x1 y0 y1 z0 z1 hk.1 hk.2 hl.1 hl.2
  · exact one_0_1 x y z w x0 x1 y0 y1 z0 z1 hk.1 hk.2 hl.1 hl.2
  · exact one_0_2 x y z w x0 x1 y0 y1 z0 z1 hk.1 hk.2 hl.1 hl.2
  · exact one_1_0 x y z w x0 x1 y0 y1 z0 z1 hk.1 hk.2 hl.1 hl.2
  · exact one_1_1 x y z w x0 x1 y0 y1 z0 z1 hk.1 hk.2 hl.1 hl.2
  · exact one_1_2 x y z w x0 x1 y0 y1 z0 z1 hk.1 hk.2 hl.1 hl.2
  · exact one_2_0 x y z w x0 x1 y0 y1 z0 z1 hk.1 hk.2 hl.1 hl.2
  · exact one_2_1 x y z w x0 x1 y0 y1 z0 z1 hk.1 hk.2 hl.1 hl.2
  · exact one_2_2 x y z w x0 x1 y0 y1 z0 z1 hk.1 hk.2 hl.1 hl.2
end Go.Proofs.Ytodekphoipjbnaa
