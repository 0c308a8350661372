/-
  package cable: Permitted, of a cable as the reference takes it for valid.
-/
import Derived.Test.YtkhmlbkkdflnoaaTre3
import Derived.Deep.RegionWith
namespace Go.Proofs.Ytkhmlbkkdflnoaa.Nm
open Go.RowKit Go.Proofs.Ytkhmlbkkdflnoaa Go
set_option linter.unusedVariables false
attribute [local go_sem ↓] Go.wp_at_zero Go.wp_at_succ

theorem cins_yes (n l h : Int) (w : World) (h1 : l ≤ n) (h2 : n ≤ h) : Calls Try.prog 150 #[.int .i64 n, .int .i64 l, .int .i64 h] w fun e w' => e = .returned (.bool true) ∧ w' = w := by
  go_enter Try.func150, Try.ntmps150
  go_wp2
  all_goals (try (exfalso; omega))
  go_ret
  exact ⟨rfl, rfl⟩
theorem cval_yes (a m g o d : Int) (w : World) (r1 : 0 ≤ a) (r2 : a ≤ 200000) (r3 : a + 1 ≤ m) (r4 : m ≤ 200000) (r5 : 0 ≤ g) (r6 : g ≤ 1000) (r7 : 0 ≤ o) (r8 : o ≤ 1000) (r9 : 1 ≤ d) (r10 : d ≤ 1000000) :
    Calls Try.prog 140 #[.agg #[.int .i64 a, .int .i64 m, .int .i64 g, .int .i64 o, .int .i64 d]] w fun e w' => e = .returned (.bool true) ∧ Below w.heap.size w w' := by
  have HB : Hid (∀ o, Below w.heap.size w (w.alloc o)) := Lib.hid fun o => (Below.refl _ _).alloc (Nat.le_refl _) o
  have r11 : a < m := by omega
  go_enter Try.func140, Try.ntmps140
  go_wp2_with (go_at_call 150; refine (cins_yes _ _ _ _ (by omega) (by omega)).mono ?_; rintro e w1 ⟨rfl, hw⟩; obtain rfl := hw.symm)
  all_goals (try (exfalso; omega))
  all_goals (go_ret; exact ⟨rfl, HB.out _⟩)
theorem cval_zero (w : World) : Calls Try.prog 140 #[.agg #[.int .i64 0, .int .i64 0, .int .i64 0, .int .i64 0, .int .i64 0]] w fun e w' => e = .returned (.bool true) ∧ Below w.heap.size w w' := by
  have HB : Hid (∀ o, Below w.heap.size w (w.alloc o)) := Lib.hid fun o => (Below.refl _ _).alloc (Nat.le_refl _) o
  go_enter Try.func140, Try.ntmps140
  go_wp2
  all_goals (try (exfalso; omega))
  all_goals (go_ret; exact ⟨rfl, HB.out _⟩)
theorem none_no (B : Nat) (a m g o d : Int) (w : World) (r9 : 1 ≤ d) (c0 : w.cell? ⟨B, 0, none⟩ = some (.int .i64 a)) (c1 : w.cell? ⟨B, 1, none⟩ = some (.int .i64 m)) (c2 : w.cell? ⟨B, 2, none⟩ = some (.int .i64 g)) (c3 : w.cell? ⟨B, 3, none⟩ = some (.int .i64 o)) (c4 : w.cell? ⟨B, 4, none⟩ = some (.int .i64 d)) :
    Calls Try.prog 141 #[.pointer (some ⟨B, 0, none⟩)] w fun e w' => e = .returned (.bool false) ∧ w' = w := by
  go_enter Try.func141, Try.ntmps141
  have hd : ¬ d = 0 := by omega
  go_wp2
  all_goals (try (exfalso; omega))
  go_ret
  exact ⟨by simp, rfl⟩
theorem none_yes (B : Nat) (w : World) (c0 : w.cell? ⟨B, 0, none⟩ = some (.int .i64 0)) (c1 : w.cell? ⟨B, 1, none⟩ = some (.int .i64 0)) (c2 : w.cell? ⟨B, 2, none⟩ = some (.int .i64 0)) (c3 : w.cell? ⟨B, 3, none⟩ = some (.int .i64 0)) (c4 : w.cell? ⟨B, 4, none⟩ = some (.int .i64 0)) :
    Calls Try.prog 141 #[.pointer (some ⟨B, 0, none⟩)] w fun e w' => e = .returned (.bool true) ∧ w' = w := by
  go_enter Try.func141, Try.ntmps141
  go_wp2
  all_goals (try (exfalso; omega))
  go_ret
  exact ⟨rfl, rfl⟩
theorem loss_any (B : Nat) (o d : Int) (w : World) (c3 : w.cell? ⟨B, 3, none⟩ = some (.int .i64 o)) (c4 : w.cell? ⟨B, 4, none⟩ = some (.int .i64 d)) :
    Calls Try.prog 142 #[.pointer (some ⟨B, 0, none⟩)] w fun e w' => e = .returned (.int .i64 (min o d)) ∧ w' = w.drew := by
  by_cases h : o ≤ d
  · have hm : min o d = o := by omega
    rw [hm]
    go_enter Try.func142, Try.ntmps142
    go_wp2
    go_region
    go_wp2
    go_ret
    exact ⟨rfl, rfl⟩
  · have hm : min o d = d := by omega
    rw [hm]
    go_enter Try.func142, Try.ntmps142
    go_wp2
    go_region
    go_wp2
    go_ret
    exact ⟨rfl, rfl⟩
/-- the greatest number from lo to hi that P holds for, as the code looks for it -/
def bis (P : Int → Bool) : Nat → Int → Int → Int
  | 0, lo, _ => lo
  | f + 1, lo, hi => if lo < hi then (if P (lo + (hi - lo + 1) / 2) = true then bis P f (lo + (hi - lo + 1) / 2) hi else bis P f lo (lo + (hi - lo + 1) / 2 - 1)) else lo
theorem bis_end (P : Int → Bool) (f : Nat) (lo hi : Int) (h : ¬ lo < hi) : bis P f lo hi = lo := by
  cases f <;> simp [bis, h]
def perP (g room a : Int) : Bool := decide (g * a * a ≤ room)
theorem sq_in {g a : Int} (r5 : 0 ≤ g) (r6 : g ≤ 1000) (a0 : 0 ≤ a) (a1 : a ≤ 1000) : (0 ≤ g * a ∧ g * a ≤ 1000000) ∧ (0 ≤ g * a * a ∧ g * a * a ≤ 1000000000) := by
  have h1 : 0 ≤ g * a := Int.mul_nonneg r5 a0
  have h2 : g * a ≤ 1000 * 1000 := Int.mul_le_mul r6 a1 a0 (by omega)
  have h3 : 0 ≤ g * a * a := Int.mul_nonneg h1 a0
  have h4 : g * a * a ≤ 1000000 * 1000 := Int.mul_le_mul (by omega) a1 a0 (by omega)
  exact ⟨⟨h1, by omega⟩, h3, by omega⟩
theorem perm1_any (g room a : Int) (B4 B5 Bw : Nat) (w : World) (r5 : 0 ≤ g) (r6 : g ≤ 1000) (a0 : 0 ≤ a) (a1 : a ≤ 1000) (h4 : w.cell? ⟨B4, 0, none⟩ = some (.pointer (some ⟨Bw, 0, none⟩))) (h5 : w.cell? ⟨B5, 0, none⟩ = some (.int .i64 room)) (hg : w.cell? ⟨Bw, 2, none⟩ = some (.int .i64 g)) :
    Calls Try.prog 144 #[.int .i64 a, .pointer (some ⟨B4, 0, none⟩), .pointer (some ⟨B5, 0, none⟩)] w fun e w' => e = .returned (.bool (perP g room a)) ∧ Below w.heap.size w w' := by
  obtain ⟨⟨g1, g2⟩, g3, g4⟩ := sq_in r5 r6 a0 a1
  have w1 : IntKind.i64.wrap (g * a) = g * a := IntWalk.i64_in _ (by omega)
  have w2 : IntKind.i64.wrap (g * a * a) = g * a * a := IntWalk.i64_in _ (by omega)
  have hr : Hid (decide (g * a * a ≤ room) = perP g room a) := Lib.hid rfl
  go_enter Try.func144, Try.ntmps144
  go_wp2
  go_quiet (fail)
  go_wp2
  go_ret
  exact ⟨ret_bool (by have hx := hr.out; first | exact hx | simpa using hx), below_drewN (Below.refl _ _) _⟩
set_option maxHeartbeats 1000000 in
theorem greatest_any (P : Int → Bool) (B4 B5 : Nat) (w : World) (hP : ∀ W a, Below w.heap.size w W → 0 ≤ a → a ≤ 1000 → Calls Try.prog 144 #[.int .i64 a, .pointer (some ⟨B4, 0, none⟩), .pointer (some ⟨B5, 0, none⟩)] W fun e w' => e = .returned (.bool (P a)) ∧ Below W.heap.size W w') :
    Calls Try.prog 143 #[.int .i64 0, .int .i64 1000, .func (.func 144) #[] #[.pointer (some ⟨B4, 0, none⟩), .pointer (some ⟨B5, 0, none⟩)]] w fun e w' => e = .returned (.int .i64 (bis P 1001 0 1000)) ∧ (0 ≤ bis P 1001 0 1000 ∧ bis P 1001 0 1000 ≤ 1000) ∧ Below w.heap.size w w' := by
  have HP := Lib.hid hP
  clear hP
  obtain ⟨G, hG⟩ : ∃ G, bis P 1001 0 1000 = G := ⟨_, rfl⟩
  rw [hG]
  go_enter Try.func143, Try.ntmps143
  go_wp2_with fail
  go_loopw [0, 1] (fun x y wr => ∃ (lo hi : Int) (f : Nat), x = .int .i64 lo ∧ y = .int .i64 hi ∧ (0 ≤ lo ∧ lo ≤ hi ∧ hi ≤ 1000) ∧ hi - lo ≤ f ∧ bis P f lo hi = G ∧ Below w.heap.size w wr) (fun x y _ => (intOf y - intOf x).toNat)
  case atStart => exact ⟨0, 1000, 1001, rfl, rfl, by omega, by omega, hG, Below.refl _ _⟩
  case round =>
    obtain ⟨wa, hwa⟩ : ∃ x, x = wr := ⟨_, rfl⟩
    subst hwa
    obtain ⟨lo, hi, f, rfl, rfl, ⟨h1, h2, h3⟩, h4, h5, hb⟩ := hrel
    have HBa := Lib.hid hb
    have HBI := Lib.hid h5
    clear hb h5
    by_cases hlt : lo < hi
    · obtain ⟨f', rfl⟩ : ∃ f', f = f' + 1 := ⟨f - 1, by omega⟩
      obtain ⟨mid, hmid⟩ : ∃ x, lo + (hi - lo + 1) / 2 = x := ⟨_, rfl⟩
      have m1 : lo < mid := by omega
      have m2 : mid ≤ hi := by omega
      have u1 : IntKind.i64.wrap (hi - lo) = hi - lo := IntWalk.i64_in _ (by omega)
      have u2 : IntKind.i64.wrap (hi - lo + 1) = hi - lo + 1 := IntWalk.i64_in _ (by omega)
      have u3 : (hi - lo + 1).tdiv 2 = (hi - lo + 1) / 2 := Int.tdiv_eq_ediv_of_nonneg (by omega)
      have u4 : IntKind.i64.wrap ((hi - lo + 1) / 2) = (hi - lo + 1) / 2 := IntWalk.i64_in _ (by omega)
      have u5 : IntKind.i64.wrap (lo + (hi - lo + 1) / 2) = mid := by rw [hmid]; exact IntWalk.i64_in _ (by omega)
      have u6 : IntKind.i64.wrap (mid - 1) = mid - 1 := IntWalk.i64_in _ (by omega)
      have HBS : Hid (bis P (f' + 1) lo hi = if P mid = true then bis P f' mid hi else bis P f' lo (mid - 1)) := Lib.hid (by simp [bis, hlt, hmid])
      have HC := Lib.hid (HP.out wa mid HBa.out (by omega) (by omega))
      clear hmid
      cases hp : P mid
      · have HQ : Hid (bis P f' lo (mid - 1) = G) := Lib.hid (by rw [← HBI.out, HBS.out, hp]; simp)
        rw [hp] at HC
        go_wp2_with (go_at_call 144; with_reducible refine HC.out.mono ?_; rintro e w2 ⟨rfl, hb2⟩)
        all_goals (try (exfalso; omega))
        go_roundw
        case rel => exact ⟨lo, mid - 1, f', rfl, rfl, by omega, by omega, HQ.out, HBa.out.trans (hb2.mono HBa.out.size)⟩
        case measure => simp [intOf] <;> omega
      · have HQ : Hid (bis P f' mid hi = G) := Lib.hid (by rw [← HBI.out, HBS.out, hp]; simp)
        rw [hp] at HC
        go_wp2_with (go_at_call 144; with_reducible refine HC.out.mono ?_; rintro e w2 ⟨rfl, hb2⟩)
        all_goals (try (exfalso; omega))
        go_roundw
        case rel => exact ⟨mid, hi, f', rfl, rfl, by omega, by omega, HQ.out, HBa.out.trans (hb2.mono HBa.out.size)⟩
        case measure => simp [intOf] <;> omega
    · have hg : Hid (lo = G) := Lib.hid (by rw [← HBI.out, bis_end _ _ _ _ hlt])
      go_wp2_with fail
      all_goals (try (exfalso; omega))
      go_ret
      exact ⟨ret_int hg.out, by rw [← hg.out]; omega, HBa.out⟩
end Go.Proofs.Ytkhmlbkkdflnoaa.Nm
