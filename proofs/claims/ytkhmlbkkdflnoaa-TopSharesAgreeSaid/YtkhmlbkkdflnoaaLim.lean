/-
  package limits: least, limit.
-/
import Derived.Test.YtkhmlbkkdflnoaaCabb
namespace Go.Proofs.Ytkhmlbkkdflnoaa.Nm
open Go.RowKit Go.Proofs.Ytkhmlbkkdflnoaa Go
set_option linter.unusedVariables false
attribute [local go_sem ↓] Go.wp_at_zero Go.wp_at_succ

/-- the least of some numbers -/
def lst (f : Nat → Int) : Nat → Int → Int
  | 0, a => a
  | n + 1, a => min (lst f n a) (f n)
theorem least_any (A : Option Addr) (n c : Nat) (f : Nat → Int) (a : Int) (w : World) (hn : n ≤ 40) (hR : RZ w A n f) :
    Calls Try.prog 119 #[.int .i64 a, .slice A n c] w fun e w' => e = .returned (.int .i64 (lst f n a)) ∧ Below w.heap.size w w' := by
  have HR := Lib.hid hR
  clear hR
  go_enter Try.func119, Try.ntmps119
  go_wp2_with fail
  go_loopw [0, 9] (fun s i wr => ∃ k : Nat, k ≤ n ∧ i = .int .i64 k ∧ s = .int .i64 (lst f k a) ∧ Below w.heap.size w wr) (fun _ i _ => n - (intOf i).toNat)
  case atStart => exact ⟨0, by omega, rfl, rfl, Below.refl _ _⟩
  case round =>
    obtain ⟨k, hk, rfl, rfl, hb⟩ := hrel
    obtain ⟨wa, hwa⟩ : ∃ x, x = wr := ⟨_, rfl⟩
    subst hwa
    have HBa := Lib.hid hb
    clear hb
    obtain ⟨L, hL⟩ : ∃ x, lst f k a = x := ⟨_, rfl⟩
    have HL := Lib.hid hL
    rw [hL]
    by_cases hlt : k < n
    · obtain ⟨b, o, rfl, hl, h0⟩ := (HR.out.keep HBa.out) k hlt
      by_cases h1 : L ≤ f k
      · have HS : Hid (lst f (k + 1) a = L) := Lib.hid (by simp only [lst, hL]; omega)
        clear hL
        go_wp2_with fail
        all_goals (try (exfalso; omega))
        go_roundw
        case rel => exact ⟨k + 1, by omega, by go_num, by rw [HS.out], HBa.out⟩
        case measure => simp [intOf] <;> omega
      · have h1' : f k < L := by omega
        have HS : Hid (lst f (k + 1) a = f k) := Lib.hid (by simp only [lst, hL]; omega)
        clear hL
        go_wp2_with fail
        all_goals (try (exfalso; omega))
        go_roundw
        case rel => exact ⟨k + 1, by omega, by go_num, by rw [HS.out], HBa.out⟩
        case measure => simp [intOf] <;> omega
    · obtain rfl : k = n := by omega
      clear hL
      go_wp2_with fail
      all_goals (try (exfalso; omega))
      go_ret
      exact ⟨ret_int HL.out.symm, HBa.out⟩
def two (x y : Int) (i : Nat) : Int := if i = 0 then x else y
def tre (x y z : Int) (i : Nat) : Int := if i = 0 then x else if i = 1 then y else z
theorem rz_two (W : World) (x y : Int) (t : TypeId) : RZ (W.alloc (.cells #[.int .i64 x, .int .i64 y] t)) (some ⟨W.heap.size, 0, none⟩) 2 (two x y) := fun i hi => by
  refine ⟨W.heap.size, 0, rfl, by simp, ?_⟩
  have : i = 0 ∨ i = 1 := by omega
  rcases this with rfl | rfl <;> simp [two]
theorem rz_tre (W : World) (x y z : Int) (t : TypeId) : RZ (W.alloc (.cells #[.int .i64 x, .int .i64 y, .int .i64 z] t)) (some ⟨W.heap.size, 0, none⟩) 3 (tre x y z) := fun i hi => by
  refine ⟨W.heap.size, 0, rfl, by simp, ?_⟩
  have : i = 0 ∨ i = 1 ∨ i = 2 := by omega
  rcases this with rfl | rfl | rfl <;> simp [tre]
/-- what a conductor may carry -/
def capZ (z : Nat → Int) : Int :=
  if z 4 = 0 then lst (two (z 3) (pmt (z 6) (z 7) (z 8) (z 9) (z 10))) 2 (z 2) else lst (tre (z 3) (pmt (z 6) (z 7) (z 8) (z 9) (z 10)) (z 4)) 3 (z 2)
set_option maxRecDepth 100000 in
set_option maxHeartbeats 2000000 in
theorem limit_any (s : ByteArray) (j : Int) (z : Nat → Int) (w : World) (hz : CoP j z) :
    Calls Try.prog 78 #[.agg #[.string s, .int .i64 (z 1), .int .i64 (z 2), .int .i64 (z 3), .int .i64 (z 4), .int .i64 (z 5), .int .i64 (z 6), .int .i64 (z 7), .int .i64 (z 8), .int .i64 (z 9), .int .i64 (z 10)]] w
      fun e w' => e = .returned (.int .i64 (capZ z)) ∧ (0 ≤ capZ z ∧ capZ z ≤ 1000) ∧ Below w.heap.size w w' := by
  have HPM : Hid (∀ W, Calls Try.prog 118 #[.agg #[.int .i64 (z 6), .int .i64 (z 7), .int .i64 (z 8), .int .i64 (z 9), .int .i64 (z 10)]] W fun e w' => e = .returned (.tuple #[.int .i64 (pmt (z 6) (z 7) (z 8) (z 9) (z 10)), .int .i64 0]) ∧ (0 ≤ pmt (z 6) (z 7) (z 8) (z 9) (z 10) ∧ pmt (z 6) (z 7) (z 8) (z 9) (z 10) ≤ 1000) ∧ Below W.heap.size W w') := Lib.hid fun W => permitted_any _ _ _ _ _ W (by
    obtain ⟨_, _, _, _, _, h⟩ := hz
    exact h)
  obtain ⟨p, hp⟩ : ∃ x, pmt (z 6) (z 7) (z 8) (z 9) (z 10) = x := ⟨_, rfl⟩
  rw [hp] at HPM
  obtain ⟨⟨h1, h2⟩, ⟨h3, h4⟩, _, _, h5, _⟩ := hz
  obtain ⟨C, hC⟩ : ∃ x, capZ z = x := ⟨_, rfl⟩
  have HX0 : Hid (z 4 = 0 → lst (two (z 3) p) 2 (z 2) = C) := Lib.hid fun h => by rw [← hC]; simp only [capZ, hp, if_pos h]
  have HX1 : Hid (¬ z 4 = 0 → lst (tre (z 3) p (z 4)) 3 (z 2) = C) := Lib.hid fun h => by rw [← hC]; simp only [capZ, hp, if_neg h]
  rw [hC]
  clear hp hC
  go_enter Try.func78, Try.ntmps78
  go_upto_region 1 with fail
  refine nameW ?_
  intro W0 hW0
  have HB0 : Hid (Below w.heap.size w W0) := Lib.hid (by rw [← hW0]; exact bel_alloc (Below.refl _ _) _)
  have d2 : W0.cell? ⟨w.heap.size, 2, none⟩ = some (.int .i64 (z 2)) := by rw [← hW0]; simp
  have d3 : W0.cell? ⟨w.heap.size, 3, none⟩ = some (.int .i64 (z 3)) := by rw [← hW0]; simp
  have d4 : W0.cell? ⟨w.heap.size, 4, none⟩ = some (.int .i64 (z 4)) := by rw [← hW0]; simp
  have d6 : W0.cell? ⟨w.heap.size, 6, none⟩ = some (.int .i64 (z 6)) := by rw [← hW0]; simp
  have d7 : W0.cell? ⟨w.heap.size, 7, none⟩ = some (.int .i64 (z 7)) := by rw [← hW0]; simp
  have d8 : W0.cell? ⟨w.heap.size, 8, none⟩ = some (.int .i64 (z 8)) := by rw [← hW0]; simp
  have d9 : W0.cell? ⟨w.heap.size, 9, none⟩ = some (.int .i64 (z 9)) := by rw [← hW0]; simp
  have d10 : W0.cell? ⟨w.heap.size, 10, none⟩ = some (.int .i64 (z 10)) := by rw [← hW0]; simp
  clear hW0
  go_upto_region 4 with (go_at_call 118; with_reducible refine (HPM.out _).mono ?_; rintro e W1 ⟨rfl, ⟨p0, p1⟩, hb1⟩)
  all_goals (try (exfalso; omega))
  have c2 := old_at d2 hb1
  have c3 := old_at d3 hb1
  have c4 := old_at d4 hb1
  have HB1 := Lib.hid (HB0.out.trans (hb1.mono HB0.out.size))
  clear d2 d3 d4 d6 d7 d8 d9 d10 hb1
  by_cases hz4 : z 4 = 0
  · have HX := Lib.hid (HX0.out hz4)
    have HBD : Hid (0 ≤ C ∧ C ≤ 1000) := Lib.hid (by rw [← HX.out]; simp [lst, two]; omega)
    clear HX0 HX1
    go_wp2_with (go_at_call 119; with_reducible refine (least_any _ 2 _ _ _ _ (by omega) (rz_two _ _ _ _)).mono ?_; rintro e w4 ⟨rfl, hb4⟩)
    all_goals (try (exfalso; omega))
    go_ret
    exact ⟨ret_int HX.out, HBD.out, (bel_alloc HB1.out _).trans (hb4.mono (bel_alloc HB1.out _).size)⟩
  · have HX := Lib.hid (HX1.out hz4)
    have HBD : Hid (0 ≤ C ∧ C ≤ 1000) := Lib.hid (by rw [← HX.out]; simp [lst, tre]; omega)
    clear HX0 HX1
    go_wp2_with (go_at_call 119; with_reducible refine (least_any _ 3 _ _ _ _ (by omega) (rz_tre _ _ _ _ _)).mono ?_; rintro e w4 ⟨rfl, hb4⟩)
    all_goals (try (exfalso; omega))
    go_ret
    exact ⟨ret_int HX.out, HBD.out, (bel_alloc HB1.out _).trans (hb4.mono (bel_alloc HB1.out _).size)⟩
end Go.Proofs.Ytkhmlbkkdflnoaa.Nm
