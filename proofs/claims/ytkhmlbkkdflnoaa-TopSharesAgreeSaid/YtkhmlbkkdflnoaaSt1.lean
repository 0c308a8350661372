/-
  package steps: Levels, Level, amps, every. (Printed by gen_st1.py.)
-/
import Derived.Test.YtkhmlbkkdflnoaaRwm
import Derived.BigQuiet
namespace Go.Proofs.Ytkhmlbkkdflnoaa.Nm
open Go.RowKit Go.Proofs.Ytkhmlbkkdflnoaa Go
set_option linter.unusedVariables false
set_option linter.unusedSimpArgs false
attribute [local go_sem ↓] Go.wp_at_zero Go.wp_at_succ

theorem levels_any (s : ByteArray) (z : Nat → Int) (w : World) (h3 : z 3 = 1) (h5 : z 5 = 1) (h4 : 1 ≤ z 4) (h4' : z 4 ≤ 80) :
    Calls Try.prog 121 #[.agg #[.string s, .int .i64 (z 1), .int .i64 (z 2), .int .i64 (z 3), .int .i64 (z 4), .int .i64 (z 5), .int .i64 (z 6), .int .i64 (z 7)]] w fun e w' => e = .returned (.int .i64 (z 4 + 1)) ∧ Below w.heap.size w w' := by
  have HB : Hid (∀ o, Below w.heap.size w (w.alloc o)) := Lib.hid fun o => (Below.refl _ _).alloc (Nat.le_refl _) o
  have w1 : IntKind.i64.wrap (z 4 - 1) = z 4 - 1 := IntWalk.i64_in _ (by omega)
  have w2 : IntKind.i64.wrap (z 4 - 1 + 2) = z 4 + 1 := by rw [show z 4 - 1 + 2 = z 4 + 1 by omega]; exact IntWalk.i64_in _ (by omega)
  have w3 : (z 4 - 1).tdiv 1 = z 4 - 1 := Int.tdiv_one _
  have n1 : ¬ z 4 < 1 := by omega
  have n2 : ¬ 80 < z 4 := by omega
  go_enter Try.func121, Try.ntmps121
  go_wp2_with fail
  all_goals (try (exfalso; omega))
  go_ret
  exact ⟨rfl, HB.out _⟩
theorem amps_ex (s : ByteArray) (z : Nat → Int) (k : Int) (w : World) (h3 : z 3 = 1) (h5 : z 5 = 1) (h0 : 0 ≤ k) (h1 : k ≤ 1000) :
    Calls Try.prog 89 #[.agg #[.string s, .int .i64 (z 1), .int .i64 (z 2), .int .i64 (z 3), .int .i64 (z 4), .int .i64 (z 5), .int .i64 (z 6), .int .i64 (z 7)], .int .i64 k] w fun e w' => e = .returned (.int .i64 k) ∧ w' = w.alloc (.cells #[.string s, .int .i64 (z 1), .int .i64 (z 2), .int .i64 (z 3), .int .i64 (z 4), .int .i64 (z 5), .int .i64 (z 6), .int .i64 (z 7)] 83) := by
  have w1 : IntKind.i64.wrap (k - 1) = k - 1 := IntWalk.i64_in _ (by omega)
  have w2 : IntKind.i64.wrap (1 + (k - 1)) = k := by rw [show 1 + (k - 1) = k by omega]; exact IntWalk.i64_in _ (by omega)
  by_cases hk : k = 0
  · subst hk
    go_enter Try.func89, Try.ntmps89
    go_wp2_with fail
    all_goals (try (exfalso; omega))
    go_ret
    exact ⟨rfl, by rw [h3, h5]⟩
  · go_enter Try.func89, Try.ntmps89
    go_wp2_with fail
    all_goals (try (exfalso; omega))
    go_ret
    exact ⟨rfl, by rw [h3, h5]⟩
theorem amps_any (s : ByteArray) (z : Nat → Int) (k : Int) (w : World) (h3 : z 3 = 1) (h5 : z 5 = 1) (h0 : 0 ≤ k) (h1 : k ≤ 1000) :
    Calls Try.prog 89 #[.agg #[.string s, .int .i64 (z 1), .int .i64 (z 2), .int .i64 (z 3), .int .i64 (z 4), .int .i64 (z 5), .int .i64 (z 6), .int .i64 (z 7)], .int .i64 k] w fun e w' => e = .returned (.int .i64 k) ∧ Below w.heap.size w w' :=
  (amps_ex s z k w h3 h5 h0 h1).mono (by rintro e w' ⟨rfl, rfl⟩; exact ⟨rfl, bel_alloc (Below.refl _ _) _⟩)
set_option maxHeartbeats 1000000 in
theorem level_any (s : ByteArray) (z : Nat → Int) (a : Int) (w : World) (h3 : z 3 = 1) (h5 : z 5 = 1) (h4 : 1 ≤ z 4) (h4' : z 4 ≤ 80) (a0 : 0 ≤ a) (a1 : a ≤ 80) :
    Calls Try.prog 87 #[.agg #[.string s, .int .i64 (z 1), .int .i64 (z 2), .int .i64 (z 3), .int .i64 (z 4), .int .i64 (z 5), .int .i64 (z 6), .int .i64 (z 7)], .int .i64 a] w fun e w' => e = .returned (.int .i64 (min a (z 4))) ∧ Below w.heap.size w w' := by
  have HL : Hid (∀ W, Calls Try.prog 121 #[.agg #[.string s, .int .i64 (z 1), .int .i64 (z 2), .int .i64 (z 3), .int .i64 (z 4), .int .i64 (z 5), .int .i64 (z 6), .int .i64 (z 7)]] W fun e w' => e = .returned (.int .i64 (z 4 + 1)) ∧ Below W.heap.size W w') := Lib.hid fun W => levels_any s z W h3 h5 h4 h4'
  have w1 : IntKind.i64.wrap (z 4 + 1 - 1) = z 4 := by rw [show z 4 + 1 - 1 = z 4 by omega]; exact IntWalk.i64_in _ (by omega)
  have w2 : IntKind.i64.wrap (a - 1) = a - 1 := IntWalk.i64_in _ (by omega)
  have w3 : (a - 1).tdiv 1 = a - 1 := Int.tdiv_one _
  have w4 : IntKind.i64.wrap (a - 1 + 1) = a := by rw [show a - 1 + 1 = a by omega]; exact IntWalk.i64_in _ (by omega)
  obtain ⟨M, hM⟩ : ∃ M, min a (z 4) = M := ⟨_, rfl⟩
  have HM0 : Hid (a < 1 → M = 0) := Lib.hid fun h => by omega
  have HM1 : Hid (a < z 4 → M = a) := Lib.hid fun h => by omega
  have HM2 : Hid (z 4 ≤ a → M = z 4) := Lib.hid fun h => by omega
  rw [hM]
  have n0 : ¬ z 4 + 1 = 0 := by omega
  clear hM
  have H3 := Lib.hid h3
  have H5 := Lib.hid h5
  clear h3 h5
  go_enter Try.func87, Try.ntmps87
  go_upto_region 1 with fail
  refine nameW ?_
  intro W0 hW0
  have HB0 : Hid (Below w.heap.size w W0) := Lib.hid (by rw [← hW0]; exact bel_alloc (Below.refl _ _) _)
  have d0 : W0.cell? ⟨w.heap.size, 0, none⟩ = some (.string s) := by rw [← hW0]; simp
  have d1 : W0.cell? ⟨w.heap.size, 1, none⟩ = some (.int .i64 (z 1)) := by rw [← hW0]; simp
  have d2 : W0.cell? ⟨w.heap.size, 2, none⟩ = some (.int .i64 (z 2)) := by rw [← hW0]; simp
  have d3 : W0.cell? ⟨w.heap.size, 3, none⟩ = some (.int .i64 (z 3)) := by rw [← hW0]; simp
  have d4 : W0.cell? ⟨w.heap.size, 4, none⟩ = some (.int .i64 (z 4)) := by rw [← hW0]; simp
  have d5 : W0.cell? ⟨w.heap.size, 5, none⟩ = some (.int .i64 (z 5)) := by rw [← hW0]; simp
  have d6 : W0.cell? ⟨w.heap.size, 6, none⟩ = some (.int .i64 (z 6)) := by rw [← hW0]; simp
  have d7 : W0.cell? ⟨w.heap.size, 7, none⟩ = some (.int .i64 (z 7)) := by rw [← hW0]; simp
  clear hW0
  go_upto_region 2 with (go_at_call 121; with_reducible refine (HL.out _).mono ?_; rintro e W1 ⟨rfl, hb1⟩)
  have c3 := old_at d3 hb1
  have c5 := old_at d5 hb1
  rw [H3.out] at c3
  rw [H5.out] at c5
  have HB1 := Lib.hid (HB0.out.trans (hb1.mono HB0.out.size))
  clear d0 d1 d2 d3 d4 d5 d6 d7 hb1
  by_cases ha : a < 1
  · have hm := Lib.hid (HM0.out ha)
    clear HM0 HM1 HM2
    go_wp2_with fail
    all_goals (try (exfalso; omega))
    go_ret
    exact ⟨ret_int hm.out.symm, HB1.out⟩
  · by_cases hb : a < z 4
    · have hm := Lib.hid (HM1.out hb)
      clear HM0 HM1 HM2
      go_wp2_with fail
      all_goals (try (exfalso; omega))
      go_ret
      exact ⟨ret_int hm.out.symm, HB1.out⟩
    · have hm := Lib.hid (HM2.out (by omega))
      clear HM0 HM1 HM2
      go_wp2_with fail
      all_goals (try (exfalso; omega))
      go_ret
      exact ⟨ret_int hm.out.symm, HB1.out⟩
theorem cur1_yes (a : Int) (w : World) (a0 : 0 ≤ a) (a1 : a ≤ 80) : Calls Try.prog 83 #[.int .i64 a] w fun e w' => e = .returned (.bool true) ∧ Below w.heap.size w w' := by
  go_enter Try.func83, Try.ntmps83
  go_wp2_with fail
  all_goals (try (exfalso; omega))
  go_ret
  exact ⟨by simp, Below.refl _ _⟩
set_option maxHeartbeats 1000000 in
theorem every_cur (A : Option Addr) (n c : Nat) (f : Nat → Int) (w : World) (hn : n ≤ 40) (hR : RZ w A n f) (hf : ∀ i, i < n → 0 ≤ f i ∧ f i ≤ 80) :
    Calls Try.prog 84 #[.slice A n c, .func (.func 83) #[] #[]] w fun e w' => e = .returned (.bool true) ∧ Below w.heap.size w w' := by
  have HR := Lib.hid hR
  have HF := Lib.hid hf
  clear hR hf
  go_enter Try.func84, Try.ntmps84
  go_wp2_with fail
  go_loopw [9] (fun i wr => ∃ k : Nat, k ≤ n ∧ i = .int .i64 k ∧ Below w.heap.size w wr) (fun i _ => n - (intOf i).toNat)
  case atStart => exact ⟨0, by omega, rfl, Below.refl _ _⟩
  case round =>
    obtain ⟨k, hk, rfl, hb⟩ := hrel
    obtain ⟨wa, hwa⟩ : ∃ x, x = wr := ⟨_, rfl⟩
    subst hwa
    have HBa := Lib.hid hb
    clear hb
    by_cases hlt : k < n
    · obtain ⟨b, o, rfl, hl, h0⟩ := (HR.out.keep HBa.out) k hlt
      obtain ⟨g0, g1⟩ := HF.out k hlt
      have HC : Hid (∀ W, Calls Try.prog 83 #[.int .i64 (f k)] W fun e w' => e = .returned (.bool true) ∧ Below W.heap.size W w') := Lib.hid fun W => cur1_yes _ W g0 g1
      go_wp2_with (go_at_call 83; with_reducible refine (HC.out _).mono ?_; rintro e w2 ⟨rfl, hb2⟩)
      all_goals (try (exfalso; omega))
      go_roundw
      case rel => exact ⟨k + 1, by omega, by go_num, HBa.out.trans (hb2.mono HBa.out.size)⟩
      case measure => simp [intOf] <;> omega
    · go_wp2_with fail
      all_goals (try (exfalso; omega))
      go_ret
      exact ⟨rfl, HBa.out⟩
set_option maxHeartbeats 2000000 in
theorem every_fits (A : Option Addr) (l : List Nat) (c : Nat) (Q : Nat → Bool) (B1 B2 : Nat) (w : World) (hn : l.length ≤ 1000) (hR : RZ w A l.length (fun i => ((l.getD i 0 : Nat) : Int)))
    (hP : ∀ W i, Below w.heap.size w W → i ∈ l → Calls Try.prog 122 #[.int .i64 ((i : Nat) : Int), .pointer (some ⟨B1, 0, none⟩), .pointer (some ⟨B2, 0, none⟩)] W fun e w' => e = .returned (.bool (Q i)) ∧ Below W.heap.size W w') :
    Calls Try.prog 84 #[.slice A l.length c, .func (.func 122) #[] #[.pointer (some ⟨B1, 0, none⟩), .pointer (some ⟨B2, 0, none⟩)]] w fun e w' => e = .returned (.bool (l.all Q)) ∧ Below w.heap.size w w' := by
  have HR := Lib.hid hR
  have HP := Lib.hid hP
  clear hR hP
  obtain ⟨r, hr⟩ : ∃ r, l.all Q = r := ⟨_, rfl⟩
  have HALL : Hid (∀ k, k = l.length → (∀ j, j < k → Q (l.getD j 0) = true) → r = true) := Lib.hid fun k hk h => by
    rw [← hr, List.all_eq_true]
    intro i hi
    obtain ⟨j, hj, rfl⟩ := List.getElem_of_mem hi
    have := h j (by omega)
    simpa [List.getD, hj] using this
  have HNO : Hid (∀ k, k < l.length → Q (l.getD k 0) = false → r = false) := Lib.hid fun k hk h => by
    rw [← hr, List.all_eq_false]
    exact ⟨l.getD k 0, by simp [List.getD, hk], by rw [h]; simp⟩
  have HMEM : Hid (∀ k, k < l.length → l.getD k 0 ∈ l) := Lib.hid fun k hk => by simp [List.getD, hk]
  obtain ⟨n, hnn⟩ : ∃ n, l.length = n := ⟨_, rfl⟩
  rw [hr]
  rw [hnn] at hn HR HALL HNO HMEM ⊢
  clear hr hnn
  go_enter Try.func84, Try.ntmps84
  go_wp2_with fail
  go_loopw [9] (fun i wr => ∃ k : Nat, k ≤ n ∧ i = .int .i64 k ∧ (∀ j, j < k → Q (l.getD j 0) = true) ∧ Below w.heap.size w wr) (fun i _ => n - (intOf i).toNat)
  case atStart => exact ⟨0, by omega, rfl, fun j h => absurd h (by omega), Below.refl _ _⟩
  case round =>
    obtain ⟨k, hk, rfl, hall, hb⟩ := hrel
    obtain ⟨wa, hwa⟩ : ∃ x, x = wr := ⟨_, rfl⟩
    subst hwa
    have HBa := Lib.hid hb
    have HA := Lib.hid hall
    clear hb hall
    by_cases hlt : k < n
    · obtain ⟨b, o, rfl, hl, h0⟩ := (HR.out.keep HBa.out) k hlt
      have hc := HP.out wa _ HBa.out (HMEM.out k hlt)
      have hno := HNO.out k hlt
      obtain ⟨m, hm⟩ : ∃ x, l.getD k 0 = x := ⟨_, rfl⟩
      have h0' : wa.cell? ⟨b, o + k, none⟩ = some (.int .i64 ((m : Nat) : Int)) := by rw [h0, ← hm]
      have HM := Lib.hid hm
      rw [hm] at hc hno
      have HC := Lib.hid hc
      have HN := Lib.hid hno
      clear h0 hm hc hno
      cases hq : Q m
      · rw [hq] at HC
        have hrf : Hid (r = false) := Lib.hid (HN.out hq)
        clear HN
        go_wp2_with (go_at_call 122; with_reducible refine (HC.out).mono ?_; rintro e w2 ⟨rfl, hb2⟩)
        all_goals (try (exfalso; omega))
        go_ret
        exact ⟨ret_bool hrf.out.symm, HBa.out.trans (hb2.mono HBa.out.size)⟩
      · rw [hq] at HC
        clear HN
        go_wp2_with (go_at_call 122; with_reducible refine (HC.out).mono ?_; rintro e w2 ⟨rfl, hb2⟩)
        all_goals (try (exfalso; omega))
        go_roundw
        case rel => exact ⟨k + 1, by omega, by go_num, all_snoc HA.out (by rw [HM.out]; exact hq), HBa.out.trans (hb2.mono HBa.out.size)⟩
        case measure => simp [intOf] <;> omega
    · obtain rfl : k = n := by omega
      have hrt : Hid (r = true) := Lib.hid (HALL.out k rfl HA.out)
      go_wp2_with fail
      all_goals (try (exfalso; omega))
      go_ret
      exact ⟨ret_bool hrt.out.symm, HBa.out⟩
end Go.Proofs.Ytkhmlbkkdflnoaa.Nm
