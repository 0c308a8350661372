/-
  THE WALKS OF TWO LAWS MORE over package phases, whose statements leave an order open.
-/
import Derived.Test.YtodekphoipjbnaaLaws
import Derived.StillTailTactics
import Derived.Deep.QuietTactic
import Derived.BigQuiet
import Derived.IntWalk
namespace Go.Proofs.Ytodekphoipjbnaa
open Go.RowKit
set_option linter.unusedVariables false

set_option maxHeartbeats 1000000 in
theorem worst_0 (x : Int) (y : Int) (z : Int) (u : Int) (v : Int) (s : Int) (w : World) (x0 : 0 ≤ x) (x1 : x ≤ 65535) (y0 : 0 ≤ y) (y1 : y ≤ 65535) (z0 : 0 ≤ z) (z1 : z ≤ 65535) (u0 : 0 ≤ u) (u1 : u ≤ 65535) (v0 : 0 ≤ v) (v1 : v ≤ 65535) (s0 : 0 ≤ s) (s1 : s ≤ 65535) (k1 : am x = worN (am x) (am y) (am z)) :
    Calls Try.prog 8 #[.int .u16 x, .int .u16 y, .int .u16 z, .int .u16 u, .int .u16 v, .int .u16 s] w fun e w' => e = .returned (.bool true) ∧ Below w.heap.size w w' := by
  have h : Below w.heap.size w w := Below.refl _ _
  have hw : worN (am x) (am y) (am z) = max (am x) (max (am y) (am z)) := by unfold worN; rw [if_pos (ok3_mk (am_bd x) (am_bd y) (am_bd z))]
  have ha := am_bd x
  have hb := am_bd y
  have hc := am_bd z
  have hu := mod_bd (u := u) (m := am x + 1) (by omega)
  have hv := mod_bd (u := v) (m := am y + 1) (by omega)
  have hs := mod_bd (u := s) (m := am z + 1) (by omega)
  have hn := nl_bd (a := u % (am x + 1)) (b := v % (am y + 1)) (c := s % (am z + 1)) (by omega) (by omega) (by omega)
  have q1 := nl_one ha
  have q2 := nl_one2 hb
  have q3 := nl_one3 hc
  have q5 : nl (u % (am x + 1)) (v % (am y + 1)) (s % (am z + 1)) ≤ worN (am x) (am y) (am z) := by
    have := nl_spread (a := u % (am x + 1)) (b := v % (am y + 1)) (c := s % (am z + 1)) (lo := 0) (hi := worN (am x) (am y) (am z)) (by omega) (by omega) (by omega) (by omega) (by omega) (by omega)
    omega
  have t0 : erA (am x) (am y) (am z) = 0 := by unfold erA; rw [if_pos (ok3_mk ha hb hc)]
  have t1 : decide (0 ≤ nl (u % (am x + 1)) (v % (am y + 1)) (s % (am z + 1))) = true := by simp; omega
  have t2 : decide (nl (u % (am x + 1)) (v % (am y + 1)) (s % (am z + 1)) ≤ worN (am x) (am y) (am z)) = true := by simpa using q5
  have t3 : (am x == worN (am x) (am y) (am z)) = true := by simpa using k1
  clear hw k1
  go_enter Try.func8, Try.ntmps8
  go_wp2_with (first
    | (go_at_call 10; refine (head_ok w _ h).mono ?_; rintro e w1 ⟨rfl, h⟩)
    | (go_at_call 16; refine (neuL _ _ _ w _ h).mono ?_; rintro e w1 ⟨rfl, h⟩)
    | (go_at_call 11; refine (neutral_ok _ _ _ w _ h).mono ?_; rintro e w1 ⟨rfl, h⟩)
    | (go_at_call 13; refine (worst_ok _ _ _ w _ h).mono ?_; rintro e w1 ⟨rfl, h⟩)
    | (go_at_call 12; refine (refNeutral _ _ _ _).mono ?_; rintro e w1 ⟨rfl, rfl⟩)
    | (go_at_call 14; refine (refWorst _ _ _ _).mono ?_; rintro e w1 ⟨rfl, rfl⟩)
    | (go_at_call 15; refine (ampsL _ _ (by omega) (by omega)).mono ?_; rintro e w1 ⟨rfl, rfl⟩))
  have sa : IntKind.i64.wrap (am x + 1) = am x + 1 := IntWalk.i64_in _ (by omega)
  have sb : ¬ am x + 1 = 0 := by omega
  have sc : u.tmod (am x + 1) = u % (am x + 1) := Int.tmod_eq_emod_of_nonneg (by omega)
  have sd : IntKind.i64.wrap u = u := IntWalk.i64_in _ (by omega)
  have se : IntKind.i64.wrap (am y + 1) = am y + 1 := IntWalk.i64_in _ (by omega)
  have sf : ¬ am y + 1 = 0 := by omega
  have sg : v.tmod (am y + 1) = v % (am y + 1) := Int.tmod_eq_emod_of_nonneg (by omega)
  have sh : IntKind.i64.wrap v = v := IntWalk.i64_in _ (by omega)
  have si : IntKind.i64.wrap (am z + 1) = am z + 1 := IntWalk.i64_in _ (by omega)
  have sj : ¬ am z + 1 = 0 := by omega
  have sk : s.tmod (am z + 1) = s % (am z + 1) := Int.tmod_eq_emod_of_nonneg (by omega)
  have sl : IntKind.i64.wrap s = s := IntWalk.i64_in _ (by omega)
  go_still_tail 15, (by kernel_rfl)
  have h := h.drew
  clear sa sb sc sd se sf sg sh si sj sk sl
  go_wp2_with (first
    | (go_at_call 10; refine (head_ok w _ h).mono ?_; rintro e w1 ⟨rfl, h⟩)
    | (go_at_call 16; refine (neuL _ _ _ w _ h).mono ?_; rintro e w1 ⟨rfl, h⟩)
    | (go_at_call 11; refine (neutral_ok _ _ _ w _ h).mono ?_; rintro e w1 ⟨rfl, h⟩)
    | (go_at_call 13; refine (worst_ok _ _ _ w _ h).mono ?_; rintro e w1 ⟨rfl, h⟩)
    | (go_at_call 12; refine (refNeutral _ _ _ _).mono ?_; rintro e w1 ⟨rfl, rfl⟩)
    | (go_at_call 14; refine (refWorst _ _ _ _).mono ?_; rintro e w1 ⟨rfl, rfl⟩)
    | (go_at_call 15; refine (ampsL _ _ (by omega) (by omega)).mono ?_; rintro e w1 ⟨rfl, rfl⟩))
  go_ret
  exact ⟨by first | rfl | exact ret_bool (by simp; omega), h⟩
set_option maxHeartbeats 1000000 in
theorem worst_1 (x : Int) (y : Int) (z : Int) (u : Int) (v : Int) (s : Int) (w : World) (x0 : 0 ≤ x) (x1 : x ≤ 65535) (y0 : 0 ≤ y) (y1 : y ≤ 65535) (z0 : 0 ≤ z) (z1 : z ≤ 65535) (u0 : 0 ≤ u) (u1 : u ≤ 65535) (v0 : 0 ≤ v) (v1 : v ≤ 65535) (s0 : 0 ≤ s) (s1 : s ≤ 65535) (k1 : am x ≠ worN (am x) (am y) (am z)) (k2 : am y = worN (am x) (am y) (am z)) :
    Calls Try.prog 8 #[.int .u16 x, .int .u16 y, .int .u16 z, .int .u16 u, .int .u16 v, .int .u16 s] w fun e w' => e = .returned (.bool true) ∧ Below w.heap.size w w' := by
  have h : Below w.heap.size w w := Below.refl _ _
  have hw : worN (am x) (am y) (am z) = max (am x) (max (am y) (am z)) := by unfold worN; rw [if_pos (ok3_mk (am_bd x) (am_bd y) (am_bd z))]
  have ha := am_bd x
  have hb := am_bd y
  have hc := am_bd z
  have hu := mod_bd (u := u) (m := am x + 1) (by omega)
  have hv := mod_bd (u := v) (m := am y + 1) (by omega)
  have hs := mod_bd (u := s) (m := am z + 1) (by omega)
  have hn := nl_bd (a := u % (am x + 1)) (b := v % (am y + 1)) (c := s % (am z + 1)) (by omega) (by omega) (by omega)
  have q1 := nl_one ha
  have q2 := nl_one2 hb
  have q3 := nl_one3 hc
  have q5 : nl (u % (am x + 1)) (v % (am y + 1)) (s % (am z + 1)) ≤ worN (am x) (am y) (am z) := by
    have := nl_spread (a := u % (am x + 1)) (b := v % (am y + 1)) (c := s % (am z + 1)) (lo := 0) (hi := worN (am x) (am y) (am z)) (by omega) (by omega) (by omega) (by omega) (by omega) (by omega)
    omega
  have t0 : erA (am x) (am y) (am z) = 0 := by unfold erA; rw [if_pos (ok3_mk ha hb hc)]
  have t1 : decide (0 ≤ nl (u % (am x + 1)) (v % (am y + 1)) (s % (am z + 1))) = true := by simp; omega
  have t2 : decide (nl (u % (am x + 1)) (v % (am y + 1)) (s % (am z + 1)) ≤ worN (am x) (am y) (am z)) = true := by simpa using q5
  have t3 : (am x == worN (am x) (am y) (am z)) = false := by simpa using k1
  have t4 : (am y == worN (am x) (am y) (am z)) = true := by simpa using k2
  clear hw k1 k2
  go_enter Try.func8, Try.ntmps8
  go_wp2_with (first
    | (go_at_call 10; refine (head_ok w _ h).mono ?_; rintro e w1 ⟨rfl, h⟩)
    | (go_at_call 16; refine (neuL _ _ _ w _ h).mono ?_; rintro e w1 ⟨rfl, h⟩)
    | (go_at_call 11; refine (neutral_ok _ _ _ w _ h).mono ?_; rintro e w1 ⟨rfl, h⟩)
    | (go_at_call 13; refine (worst_ok _ _ _ w _ h).mono ?_; rintro e w1 ⟨rfl, h⟩)
    | (go_at_call 12; refine (refNeutral _ _ _ _).mono ?_; rintro e w1 ⟨rfl, rfl⟩)
    | (go_at_call 14; refine (refWorst _ _ _ _).mono ?_; rintro e w1 ⟨rfl, rfl⟩)
    | (go_at_call 15; refine (ampsL _ _ (by omega) (by omega)).mono ?_; rintro e w1 ⟨rfl, rfl⟩))
  have sa : IntKind.i64.wrap (am x + 1) = am x + 1 := IntWalk.i64_in _ (by omega)
  have sb : ¬ am x + 1 = 0 := by omega
  have sc : u.tmod (am x + 1) = u % (am x + 1) := Int.tmod_eq_emod_of_nonneg (by omega)
  have sd : IntKind.i64.wrap u = u := IntWalk.i64_in _ (by omega)
  have se : IntKind.i64.wrap (am y + 1) = am y + 1 := IntWalk.i64_in _ (by omega)
  have sf : ¬ am y + 1 = 0 := by omega
  have sg : v.tmod (am y + 1) = v % (am y + 1) := Int.tmod_eq_emod_of_nonneg (by omega)
  have sh : IntKind.i64.wrap v = v := IntWalk.i64_in _ (by omega)
  have si : IntKind.i64.wrap (am z + 1) = am z + 1 := IntWalk.i64_in _ (by omega)
  have sj : ¬ am z + 1 = 0 := by omega
  have sk : s.tmod (am z + 1) = s % (am z + 1) := Int.tmod_eq_emod_of_nonneg (by omega)
  have sl : IntKind.i64.wrap s = s := IntWalk.i64_in _ (by omega)
  go_still_tail 15, (by kernel_rfl)
  have h := h.drew
  clear sa sb sc sd se sf sg sh si sj sk sl
  go_wp2_with (first
    | (go_at_call 10; refine (head_ok w _ h).mono ?_; rintro e w1 ⟨rfl, h⟩)
    | (go_at_call 16; refine (neuL _ _ _ w _ h).mono ?_; rintro e w1 ⟨rfl, h⟩)
    | (go_at_call 11; refine (neutral_ok _ _ _ w _ h).mono ?_; rintro e w1 ⟨rfl, h⟩)
    | (go_at_call 13; refine (worst_ok _ _ _ w _ h).mono ?_; rintro e w1 ⟨rfl, h⟩)
    | (go_at_call 12; refine (refNeutral _ _ _ _).mono ?_; rintro e w1 ⟨rfl, rfl⟩)
    | (go_at_call 14; refine (refWorst _ _ _ _).mono ?_; rintro e w1 ⟨rfl, rfl⟩)
    | (go_at_call 15; refine (ampsL _ _ (by omega) (by omega)).mono ?_; rintro e w1 ⟨rfl, rfl⟩))
  go_ret
  exact ⟨by first | rfl | exact ret_bool (by simp; omega), h⟩
set_option maxHeartbeats 1000000 in
theorem worst_2 (x : Int) (y : Int) (z : Int) (u : Int) (v : Int) (s : Int) (w : World) (x0 : 0 ≤ x) (x1 : x ≤ 65535) (y0 : 0 ≤ y) (y1 : y ≤ 65535) (z0 : 0 ≤ z) (z1 : z ≤ 65535) (u0 : 0 ≤ u) (u1 : u ≤ 65535) (v0 : 0 ≤ v) (v1 : v ≤ 65535) (s0 : 0 ≤ s) (s1 : s ≤ 65535) (k1 : am x ≠ worN (am x) (am y) (am z)) (k2 : am y ≠ worN (am x) (am y) (am z)) (k3 : am z = worN (am x) (am y) (am z)) :
    Calls Try.prog 8 #[.int .u16 x, .int .u16 y, .int .u16 z, .int .u16 u, .int .u16 v, .int .u16 s] w fun e w' => e = .returned (.bool true) ∧ Below w.heap.size w w' := by
  have h : Below w.heap.size w w := Below.refl _ _
  have hw : worN (am x) (am y) (am z) = max (am x) (max (am y) (am z)) := by unfold worN; rw [if_pos (ok3_mk (am_bd x) (am_bd y) (am_bd z))]
  have ha := am_bd x
  have hb := am_bd y
  have hc := am_bd z
  have hu := mod_bd (u := u) (m := am x + 1) (by omega)
  have hv := mod_bd (u := v) (m := am y + 1) (by omega)
  have hs := mod_bd (u := s) (m := am z + 1) (by omega)
  have hn := nl_bd (a := u % (am x + 1)) (b := v % (am y + 1)) (c := s % (am z + 1)) (by omega) (by omega) (by omega)
  have q1 := nl_one ha
  have q2 := nl_one2 hb
  have q3 := nl_one3 hc
  have q5 : nl (u % (am x + 1)) (v % (am y + 1)) (s % (am z + 1)) ≤ worN (am x) (am y) (am z) := by
    have := nl_spread (a := u % (am x + 1)) (b := v % (am y + 1)) (c := s % (am z + 1)) (lo := 0) (hi := worN (am x) (am y) (am z)) (by omega) (by omega) (by omega) (by omega) (by omega) (by omega)
    omega
  have t0 : erA (am x) (am y) (am z) = 0 := by unfold erA; rw [if_pos (ok3_mk ha hb hc)]
  have t1 : decide (0 ≤ nl (u % (am x + 1)) (v % (am y + 1)) (s % (am z + 1))) = true := by simp; omega
  have t2 : decide (nl (u % (am x + 1)) (v % (am y + 1)) (s % (am z + 1)) ≤ worN (am x) (am y) (am z)) = true := by simpa using q5
  have t3 : (am x == worN (am x) (am y) (am z)) = false := by simpa using k1
  have t4 : (am y == worN (am x) (am y) (am z)) = false := by simpa using k2
  have t5 : (am z == worN (am x) (am y) (am z)) = true := by simpa using k3
  clear hw k1 k2 k3
  go_enter Try.func8, Try.ntmps8
  go_wp2_with (first
    | (go_at_call 10; refine (head_ok w _ h).mono ?_; rintro e w1 ⟨rfl, h⟩)
    | (go_at_call 16; refine (neuL _ _ _ w _ h).mono ?_; rintro e w1 ⟨rfl, h⟩)
    | (go_at_call 11; refine (neutral_ok _ _ _ w _ h).mono ?_; rintro e w1 ⟨rfl, h⟩)
    | (go_at_call 13; refine (worst_ok _ _ _ w _ h).mono ?_; rintro e w1 ⟨rfl, h⟩)
    | (go_at_call 12; refine (refNeutral _ _ _ _).mono ?_; rintro e w1 ⟨rfl, rfl⟩)
    | (go_at_call 14; refine (refWorst _ _ _ _).mono ?_; rintro e w1 ⟨rfl, rfl⟩)
    | (go_at_call 15; refine (ampsL _ _ (by omega) (by omega)).mono ?_; rintro e w1 ⟨rfl, rfl⟩))
  have sa : IntKind.i64.wrap (am x + 1) = am x + 1 := IntWalk.i64_in _ (by omega)
  have sb : ¬ am x + 1 = 0 := by omega
  have sc : u.tmod (am x + 1) = u % (am x + 1) := Int.tmod_eq_emod_of_nonneg (by omega)
  have sd : IntKind.i64.wrap u = u := IntWalk.i64_in _ (by omega)
  have se : IntKind.i64.wrap (am y + 1) = am y + 1 := IntWalk.i64_in _ (by omega)
  have sf : ¬ am y + 1 = 0 := by omega
  have sg : v.tmod (am y + 1) = v % (am y + 1) := Int.tmod_eq_emod_of_nonneg (by omega)
  have sh : IntKind.i64.wrap v = v := IntWalk.i64_in _ (by omega)
  have si : IntKind.i64.wrap (am z + 1) = am z + 1 := IntWalk.i64_in _ (by omega)
  have sj : ¬ am z + 1 = 0 := by omega
  have sk : s.tmod (am z + 1) = s % (am z + 1) := Int.tmod_eq_emod_of_nonneg (by omega)
  have sl : IntKind.i64.wrap s = s := IntWalk.i64_in _ (by omega)
  go_still_tail 15, (by kernel_rfl)
  have h := h.drew
  clear sa sb sc sd se sf sg sh si sj sk sl
  go_wp2_with (first
    | (go_at_call 10; refine (head_ok w _ h).mono ?_; rintro e w1 ⟨rfl, h⟩)
    | (go_at_call 16; refine (neuL _ _ _ w _ h).mono ?_; rintro e w1 ⟨rfl, h⟩)
    | (go_at_call 11; refine (neutral_ok _ _ _ w _ h).mono ?_; rintro e w1 ⟨rfl, h⟩)
    | (go_at_call 13; refine (worst_ok _ _ _ w _ h).mono ?_; rintro e w1 ⟨rfl, h⟩)
    | (go_at_call 12; refine (refNeutral _ _ _ _).mono ?_; rintro e w1 ⟨rfl, rfl⟩)
    | (go_at_call 14; refine (refWorst _ _ _ _).mono ?_; rintro e w1 ⟨rfl, rfl⟩)
    | (go_at_call 15; refine (ampsL _ _ (by omega) (by omega)).mono ?_; rintro e w1 ⟨rfl, rfl⟩))
  go_ret
  exact ⟨by first | rfl | exact ret_bool (by simp; omega), h⟩
theorem walk_worst (x : Int) (y : Int) (z : Int) (u : Int) (v : Int) (s : Int) (w : World) (x0 : 0 ≤ x) (x1 : x ≤ 65535) (y0 : 0 ≤ y) (y1 : y ≤ 65535) (z0 : 0 ≤ z) (z1 : z ≤ 65535) (u0 : 0 ≤ u) (u1 : u ≤ 65535) (v0 : 0 ≤ v) (v1 : v ≤ 65535) (s0 : 0 ≤ s) (s1 : s ≤ 65535) :
    Calls Try.prog 8 #[.int .u16 x, .int .u16 y, .int .u16 z, .int .u16 u, .int .u16 v, .int .u16 s] w fun e w' => e = .returned (.bool true) ∧ Below w.heap.size w w' := by
  have hw : worN (am x) (am y) (am z) = max (am x) (max (am y) (am z)) := by unfold worN; rw [if_pos (ok3_mk (am_bd x) (am_bd y) (am_bd z))]
  by_cases k1 : am x = worN (am x) (am y) (am z)
  · exact worst_0 x y z u v s w x0 x1 y0 y1 z0 z1 u0 u1 v0 v1 s0 s1 k1
  · by_cases k2 : am y = worN (am x) (am y) (am z)
    · exact worst_1 x y z u v s w x0 x1 y0 y1 z0 z1 u0 u1 v0 v1 s0 s1 k1 k2
    · exact worst_2 x y z u v s w x0 x1 y0 y1 z0 z1 u0 u1 v0 v1 s0 s1 k1 k2 (by omega)
set_option maxHeartbeats 1000000 in
theorem walk_sums (x : Int) (y : Int) (z : Int) (u : Int) (v : Int) (s : Int) (w : World) (x0 : 0 ≤ x) (x1 : x ≤ 65535) (y0 : 0 ≤ y) (y1 : y ≤ 65535) (z0 : 0 ≤ z) (z1 : z ≤ 65535) (u0 : 0 ≤ u) (u1 : u ≤ 65535) (v0 : 0 ≤ v) (v1 : v ≤ 65535) (s0 : 0 ≤ s) (s1 : s ≤ 65535) :
    Calls Try.prog 9 #[.int .u16 x, .int .u16 y, .int .u16 z, .int .u16 u, .int .u16 v, .int .u16 s] w fun e w' => e = .returned (.bool true) ∧ Below w.heap.size w w' := by
  have h : Below w.heap.size w w := Below.refl _ _
  have ha := am_bd x
  have hb := am_bd y
  have hc := am_bd z
  have hu := mod_bd (u := u) (m := 1001 - am x) (by omega)
  have hv := mod_bd (u := v) (m := 1001 - am y) (by omega)
  have hs := mod_bd (u := s) (m := 1001 - am z) (by omega)
  have n1 := nl_bd ha hb hc
  have n2 := nl_bd (a := u % (1001 - am x)) (b := v % (1001 - am y)) (c := s % (1001 - am z)) (by omega) (by omega) (by omega)
  have n3 := nl_bd (a := am x + u % (1001 - am x)) (b := am y + v % (1001 - am y)) (c := am z + s % (1001 - am z)) (by omega) (by omega) (by omega)
  have q := nl_sum (a := am x) (b := am y) (c := am z) (d := u % (1001 - am x)) (e := v % (1001 - am y)) (f := s % (1001 - am z)) ha hb hc (by omega) (by omega) (by omega) (by omega) (by omega) (by omega)
  have t1 : decide (0 ≤ nl (am x) (am y) (am z)) = true := by simp; omega
  have t2 : decide (0 ≤ nl (u % (1001 - am x)) (v % (1001 - am y)) (s % (1001 - am z))) = true := by simp; omega
  have t3 : decide (0 ≤ nl (am x + u % (1001 - am x)) (am y + v % (1001 - am y)) (am z + s % (1001 - am z))) = true := by simp; omega
  go_enter Try.func9, Try.ntmps9
  go_wp2_with (first
    | (go_at_call 10; refine (head_ok w _ h).mono ?_; rintro e w1 ⟨rfl, h⟩)
    | (go_at_call 16; refine (neuL _ _ _ w _ h).mono ?_; rintro e w1 ⟨rfl, h⟩)
    | (go_at_call 11; refine (neutral_ok _ _ _ w _ h).mono ?_; rintro e w1 ⟨rfl, h⟩)
    | (go_at_call 13; refine (worst_ok _ _ _ w _ h).mono ?_; rintro e w1 ⟨rfl, h⟩)
    | (go_at_call 12; refine (refNeutral _ _ _ _).mono ?_; rintro e w1 ⟨rfl, rfl⟩)
    | (go_at_call 14; refine (refWorst _ _ _ _).mono ?_; rintro e w1 ⟨rfl, rfl⟩)
    | (go_at_call 15; refine (ampsL _ _ (by omega) (by omega)).mono ?_; rintro e w1 ⟨rfl, rfl⟩))
  have sa : IntKind.i64.wrap (1001 - am x) = 1001 - am x := IntWalk.i64_in _ (by omega)
  have sb : ¬ 1001 - am x = 0 := by omega
  have sc : u.tmod (1001 - am x) = u % (1001 - am x) := Int.tmod_eq_emod_of_nonneg (by omega)
  have sd : IntKind.i64.wrap u = u := IntWalk.i64_in _ (by omega)
  have se : IntKind.i64.wrap (1001 - am y) = 1001 - am y := IntWalk.i64_in _ (by omega)
  have sf : ¬ 1001 - am y = 0 := by omega
  have sg : v.tmod (1001 - am y) = v % (1001 - am y) := Int.tmod_eq_emod_of_nonneg (by omega)
  have sh : IntKind.i64.wrap v = v := IntWalk.i64_in _ (by omega)
  have si : IntKind.i64.wrap (1001 - am z) = 1001 - am z := IntWalk.i64_in _ (by omega)
  have sj : ¬ 1001 - am z = 0 := by omega
  have sk : s.tmod (1001 - am z) = s % (1001 - am z) := Int.tmod_eq_emod_of_nonneg (by omega)
  have sl : IntKind.i64.wrap s = s := IntWalk.i64_in _ (by omega)
  go_still (by kernel_rfl)
  have h := h.drew
  clear sa sb sc sd se sf sg sh si sj sk sl
  go_wp2_with (first
    | (go_at_call 10; refine (head_ok w _ h).mono ?_; rintro e w1 ⟨rfl, h⟩)
    | (go_at_call 16; refine (neuL _ _ _ w _ h).mono ?_; rintro e w1 ⟨rfl, h⟩)
    | (go_at_call 11; refine (neutral_ok _ _ _ w _ h).mono ?_; rintro e w1 ⟨rfl, h⟩)
    | (go_at_call 13; refine (worst_ok _ _ _ w _ h).mono ?_; rintro e w1 ⟨rfl, h⟩)
    | (go_at_call 12; refine (refNeutral _ _ _ _).mono ?_; rintro e w1 ⟨rfl, rfl⟩)
    | (go_at_call 14; refine (refWorst _ _ _ _).mono ?_; rintro e w1 ⟨rfl, rfl⟩)
    | (go_at_call 15; refine (ampsL _ _ (by omega) (by omega)).mono ?_; rintro e w1 ⟨rfl, rfl⟩))
  go_ret
  exact ⟨by first | rfl | exact ret_bool (by simp; omega), h⟩
end Go.Proofs.Ytodekphoipjbnaa
