/-
  THE WALKS over the reference of settle, first part: Ints, Same; Net's refusals.
-/
import Derived.Test.YtflehgdhdfmacaaNet
namespace Go.Proofs.Ytflehgdhdfmacaa
open Go.RowKit
set_option linter.unusedVariables false
attribute [local go_sem ↓] Go.wp_at_zero Go.wp_at_succ

theorem drewN_below (w : World) (k : Nat) : Below w.heap.size w (w.drewN k) := below_drewN (Below.refl _ _) k

set_option maxRecDepth 100000 in
set_option maxHeartbeats 2000000 in
theorem ints_yes (A B : Option Addr) (n c d : Nat) (z : Nat → Int) (w : World) (hn : n ≤ 100) (hA : RZ w A n z) (hB : RZ w B n z) :
    Calls Try.prog 16 #[.slice A n c, .slice B n d] w fun e w' => e = .returned (.bool true) ∧ Below w.heap.size w w' := by
  have HA := Lib.hid hA
  have HB := Lib.hid hB
  clear hA hB
  go_enter Try.func16, Try.ntmps16
  go_wp2_with fail
  go_loopw [5] (fun i wr => ∃ k d : Nat, k ≤ n ∧ i = .int .i64 k ∧ wr = w.drewN d) (fun i _ => n - (intOf i).toNat)
  case atStart => exact ⟨0, 0, Nat.zero_le _, rfl, rfl⟩
  case round =>
    obtain ⟨k, d0, hk, rfl, rfl⟩ := hrel
    by_cases hlt : k < n
    · obtain ⟨b, o, rfl, hb, hc⟩ := HA.out k hlt
      obtain ⟨b', o', rfl, hb', hc'⟩ := HB.out k hlt
      have i1 : (0 : Int) ≤ (k : Int) := by omega
      have i2 : (k : Int) < (n : Int) := by omega
      have c1 : (w.drewN d0).cell? ⟨b, o + k, none⟩ = some (.int .i64 (z k)) := hc
      have c2 : (w.drewN d0).cell? ⟨b', o' + k, none⟩ = some (.int .i64 (z k)) := hc'
      obtain ⟨wx, hwx⟩ : ∃ wx, w.drewN d0 = wx := ⟨_, rfl⟩
      rw [hwx] at c1 c2 ⊢
      have HW := Lib.hid hwx
      clear hwx hc hc'
      go_wp2_with fail
      go_quiet (fail)
      go_wp2_with fail
      go_roundw
      case rel => exact ⟨k + 1, _, by omega, by go_num, by rw [← HW.out, World.drewN_drewN]⟩
      case measure => simp [intOf] <;> omega
    · obtain rfl : k = n := by omega
      go_wp2_with fail
      go_ret
      exact ⟨rfl, drewN_below _ _⟩

theorem eqA (a b c : Int) (w : World) : (Op.equalIn 10000 44 (.agg #[.int .i64 a, .int .i64 b, .int .i64 c]) (.agg #[.int .i64 a, .int .i64 b, .int .i64 c])).run Try.prog w = .ok true w := by
  have u3 := Try.underlying3
  have a3 := Try.isAgg3
  have z3 := Try.sizeOf3
  rw [show (10000 : Nat) = 9999 + 1 from rfl, Op.equalIn]
  simp only [Sem.run_bind, run_underlying Try.underlying44, Result.andThen_ok]
  simp only [Std.Legacy.Range.forIn_eq_forIn_range', Std.Legacy.Range.size, Nat.sub_zero, Nat.add_sub_cancel, Nat.div_one, List.range'_succ, List.range'_zero, List.forIn_cons, List.forIn_nil]
  go_simp
attribute [local go_sem] eqA

set_option maxRecDepth 100000 in
set_option maxHeartbeats 2000000 in
theorem same_yes (A B : Option Addr) (n c d : Nat) (X : Nat → Nat → Int) (w : World) (hn : n ≤ 100) (hA : RP w A n X) (hB : RP w B n X) :
    Calls Try.prog 17 #[.slice A n c, .slice B n d] w fun e w' => e = .returned (.bool true) ∧ Below w.heap.size w w' := by
  have HA := Lib.hid hA
  have HB := Lib.hid hB
  clear hA hB
  go_enter Try.func17, Try.ntmps17
  go_wp2_with fail
  go_loopw [5] (fun i wr => ∃ k d : Nat, k ≤ n ∧ i = .int .i64 k ∧ wr = w.drewN d) (fun i _ => n - (intOf i).toNat)
  case atStart => exact ⟨0, 0, Nat.zero_le _, rfl, rfl⟩
  case round =>
    obtain ⟨k, d0, hk, rfl, rfl⟩ := hrel
    by_cases hlt : k < n
    · obtain ⟨b, o, rfl, hb, h0, h1, h2⟩ := HA.out k hlt
      obtain ⟨b', o', rfl, hb', h0', h1', h2'⟩ := HB.out k hlt
      have i1 : (0 : Int) ≤ (k : Int) := by omega
      have i2 : (k : Int) < (n : Int) := by omega
      have c0 : (w.drewN d0).cell? ⟨b, o + k * 3, none⟩ = some (.int .i64 (X k 0)) := h0
      have c1 : (w.drewN d0).cell? ⟨b, o + k * 3 + 1, none⟩ = some (.int .i64 (X k 1)) := h1
      have c2 : (w.drewN d0).cell? ⟨b, o + k * 3 + 2, none⟩ = some (.int .i64 (X k 2)) := h2
      have c0' : (w.drewN d0).cell? ⟨b', o' + k * 3, none⟩ = some (.int .i64 (X k 0)) := h0'
      have c1' : (w.drewN d0).cell? ⟨b', o' + k * 3 + 1, none⟩ = some (.int .i64 (X k 1)) := h1'
      have c2' : (w.drewN d0).cell? ⟨b', o' + k * 3 + 2, none⟩ = some (.int .i64 (X k 2)) := h2'
      obtain ⟨wx, hwx⟩ : ∃ wx, w.drewN d0 = wx := ⟨_, rfl⟩
      rw [hwx] at c0 c1 c2 c0' c1' c2' ⊢
      have HW := Lib.hid hwx
      clear hwx h0 h1 h2 h0' h1' h2'
      go_wp2_with fail
      go_quiet (fail)
      go_wp2_with fail
      go_roundw
      case rel => exact ⟨k + 1, _, by omega, by go_num, by rw [← HW.out, World.drewN_drewN]⟩
      case measure => simp [intOf] <;> omega
    · obtain rfl : k = n := by omega
      go_wp2_with fail
      go_ret
      exact ⟨rfl, drewN_below _ _⟩

theorem net_limit (A : Option Addr) (n c : Nat) (m : Int) (w : World) (hn : 64 < n ∧ n ≤ 9223372036854775807) :
    Calls Try.prog 10 #[.slice A n c, .int .i64 m] w fun e w' => e = .returned (.tuple #[.slice none 0 0, .int .i64 2]) ∧ w = w' := by
  go_enter Try.func10, Try.ntmps10
  go_wp2_with fail
  all_goals (try (exfalso; omega))
  go_ret2
  exact ⟨rfl, rfl⟩
theorem net_arg (A : Option Addr) (n c : Nat) (m : Int) (w : World) (hn : n ≤ 64) (hm : m < 1 ∨ 8 < m) :
    Calls Try.prog 10 #[.slice A n c, .int .i64 m] w fun e w' => e = .returned (.tuple #[.slice none 0 0, .int .i64 1]) ∧ w = w' := by
  rcases hm with hm | hm
  · go_enter Try.func10, Try.ntmps10
    go_wp2_with fail
    all_goals (try (exfalso; omega))
    go_ret2
    exact ⟨rfl, rfl⟩
  · have h1 : ¬ m < 1 := by omega
    go_enter Try.func10, Try.ntmps10
    go_wp2_with fail
    all_goals (try (exfalso; omega))
    go_ret2
    exact ⟨rfl, rfl⟩
theorem rnet_limit (A : Option Addr) (n c : Nat) (m : Int) (w : World) (hn : 64 < n ∧ n ≤ 9223372036854775807) :
    Calls Try.prog 11 #[.slice A n c, .int .i64 m] w fun e w' => e = .returned (.tuple #[.slice none 0 0, .int .i64 2]) ∧ w = w' := by
  go_enter Try.func11, Try.ntmps11
  go_wp2_with fail
  all_goals (try (exfalso; omega))
  go_ret2
  exact ⟨rfl, rfl⟩
theorem rnet_arg (A : Option Addr) (n c : Nat) (m : Int) (w : World) (hn : n ≤ 64) (hm : m < 1 ∨ 8 < m) :
    Calls Try.prog 11 #[.slice A n c, .int .i64 m] w fun e w' => e = .returned (.tuple #[.slice none 0 0, .int .i64 1]) ∧ w = w' := by
  rcases hm with hm | hm
  · go_enter Try.func11, Try.ntmps11
    go_wp2_with fail
    all_goals (try (exfalso; omega))
    go_ret2
    exact ⟨rfl, rfl⟩
  · have h1 : ¬ m < 1 := by omega
    go_enter Try.func11, Try.ntmps11
    go_wp2_with fail
    all_goals (try (exfalso; omega))
    go_ret2
    exact ⟨rfl, rfl⟩
end Go.Proofs.Ytflehgdhdfmacaa
