/-
  THE REFERENCE: Few, Currents, Order, Ints.
-/
import Derived.Test.YtkhmlbkkdflnoaaSv5
namespace Go.Proofs.Ytkhmlbkkdflnoaa.Nm
open Go.RowKit Go.Proofs.Ytkhmlbkkdflnoaa Go
set_option linter.unusedVariables false
attribute [local go_sem ↓] Go.wp_at_zero Go.wp_at_succ

theorem few_any (A : Nat → Option Addr) (n c : Nat → Nat) (w : World) :
    Calls Try.prog 25 #[.agg #[.slice (A 0) (n 0) (c 0), .slice (A 1) (n 1) (c 1), .slice (A 2) (n 2) (c 2), .slice (A 3) (n 3) (c 3), .slice (A 4) (n 4) (c 4)]] w fun e w' => yesP (∀ t, t < 5 → n t ≤ 40) e ∧ Below w.heap.size w w' := by
  have HB : Hid (∀ o, Below w.heap.size w (w.alloc o)) := Lib.hid fun o => (Below.refl _ _).alloc (Nat.le_refl _) o
  go_enter Try.func25, Try.ntmps25
  go_wp2_with fail
  all_goals (try (exfalso; omega))
  all_goals (
    go_ret
    refine ⟨?_, HB.out _⟩
    first
      | exact yes_no _
      | (refine yes_if fun h => ?_
         intro t ht
         simp only [decide_eq_true_eq] at h
         have h5 : t = 0 ∨ t = 1 ∨ t = 2 ∨ t = 3 ∨ t = 4 := by omega
         rcases h5 with rfl | rfl | rfl | rfl | rfl <;> omega))
/-- currents of all chargers -/
def CuP (n m : Nat) (z : Nat → Int) : Prop := n = m ∧ ∀ i, i < n → 0 ≤ z i ∧ z i ≤ 80
theorem currents_any (S : Sit) (A : Option Addr) (n c : Nat) (z : Nat → Int) (w : World) (hn : n ≤ 40) (hc : n ≤ c ∧ c ≤ 9223372036854775807) (hR : RZ w A n z) :
    Calls Try.prog 27 #[.agg #[.slice (S.A 0) (S.n 0) (S.c 0), .slice (S.A 1) (S.n 1) (S.c 1), .slice (S.A 2) (S.n 2) (S.c 2), .slice (S.A 3) (S.n 3) (S.c 3), .slice (S.A 4) (S.n 4) (S.c 4)], .slice A n c] w fun e w' => yesP (CuP n (S.n 3) z) e ∧ Below w.heap.size w w' := by
  have HR := Lib.hid hR
  clear hR
  go_enter Try.func27, Try.ntmps27
  go_upto_region 2 with fail
  refine nameW ?_
  intro W0 hW0
  have HB0 : Hid (Below w.heap.size w W0) := Lib.hid (by rw [← hW0]; exact (Below.refl _ _).alloc (Nat.le_refl _) _)
  have d3 : W0.cell? ⟨w.heap.size, 3, none⟩ = some (.slice (S.A 3) (S.n 3) (S.c 3)) := by rw [← hW0]; simp
  clear hW0
  go_loopw [5] (fun i wr => ∃ k : Nat, k ≤ n ∧ i = .int .i64 k ∧ (∀ j, j < k → 0 ≤ z j ∧ z j ≤ 80) ∧ W0 = wr) (fun i _ => n - (intOf i).toNat)
  case atStart => exact ⟨0, by omega, rfl, fun j h => absurd h (by omega), rfl⟩
  case round =>
    obtain ⟨k, hk, rfl, hall, rfl⟩ := hrel
    have HA := Lib.hid hall
    clear hall
    by_cases hlt : k < n
    · obtain ⟨b, o, rfl, hl, h0⟩ := (HR.out.keep HB0.out) k hlt
      by_cases h1 : 0 ≤ z k ∧ z k ≤ 80
      · obtain ⟨h2, h3⟩ := h1
        go_wp2_with fail
        all_goals (try (exfalso; omega))
        go_roundw
        case rel => exact ⟨k + 1, by omega, by go_num, all_snoc HA.out ⟨h2, h3⟩, by simp⟩
        case measure => simp [intOf] <;> omega
      · go_wp2_with fail
        all_goals (try (exfalso; omega))
        all_goals (go_ret; exact ⟨yes_no _, HB0.out⟩)
    · go_wp2_with fail
      all_goals (try (exfalso; omega))
      go_ret
      exact ⟨yes_if fun h => ⟨(by have h9 : (n : Int) = (S.n 3 : Int) := (by simpa using h); omega), fun i hi => HA.out i (by omega)⟩, HB0.out⟩
/-- an order of n -/
def OrP (n m : Nat) (z : Nat → Int) : Prop := n = m ∧ ∀ i, i < n → (0 ≤ z i ∧ z i < n) ∧ ∀ k, k < i → z k ≠ z i
set_option maxHeartbeats 1000000 in
theorem order_any (A : Option Addr) (n c m : Nat) (z : Nat → Int) (w : World) (hn : n ≤ 40) (hm : m ≤ 40) (hR : RZ w A n z) :
    Calls Try.prog 28 #[.slice A n c, .int .i64 (m : Int)] w fun e w' => yesP (OrP n m z) e ∧ Below w.heap.size w w' := by
  have HR := Lib.hid hR
  clear hR
  by_cases hnm : n = m
  · subst hnm
    go_enter Try.func28, Try.ntmps28
    go_wp2_with fail
    all_goals (try (exfalso; omega))
    go_loopw [5] (fun i wr => ∃ k : Nat, k ≤ n ∧ i = .int .i64 k ∧ (∀ j, j < k → (0 ≤ z j ∧ z j < n) ∧ ∀ q, q < j → z q ≠ z j) ∧ Below w.heap.size w wr) (fun i _ => n - (intOf i).toNat)
    case atStart => exact ⟨0, by omega, rfl, fun j h => absurd h (by omega), Below.refl _ _⟩
    case round =>
      obtain ⟨k, hk, rfl, hall, hb⟩ := hrel
      obtain ⟨wa, hwa⟩ : ∃ x, x = wr := ⟨_, rfl⟩
      subst hwa
      have HA := Lib.hid hall
      have HBa := Lib.hid hb
      clear hall hb
      by_cases hlt : k < n
      · obtain ⟨b, o, rfl, hl, h0⟩ := (HR.out.keep HBa.out) k hlt
        have HRk : Hid (∀ W, Below w.heap.size w W → ∀ j, j < n → W.cell? ⟨b, o + j, none⟩ = some (.int .i64 (z j))) := Lib.hid fun W hW j hj => by
          obtain ⟨b', o', e, _, h⟩ := (HR.out.keep hW) j hj
          cases e
          exact h
        by_cases h1 : 0 ≤ z k ∧ z k < n
        · have HR1 := Lib.hid h1
          obtain ⟨h2, h3⟩ := h1
          go_wp2_with fail
          all_goals (try (exfalso; omega))
          clear h2 h3
          go_loopw [6] (fun i wr => ∃ m : Nat, m ≤ k ∧ i = .int .i64 m ∧ (∀ j, j < m → z j ≠ z k) ∧ Below w.heap.size w wr) (fun i _ => k - (intOf i).toNat)
          case atStart => exact ⟨0, by omega, rfl, fun j h => absurd h (by omega), HBa.out⟩
          case round =>
            obtain ⟨m, hm', rfl, hall, hb⟩ := hrel
            obtain ⟨wb, hwb⟩ : ∃ x, x = wr := ⟨_, rfl⟩
            subst hwb
            have HAb := Lib.hid hall
            have HBb := Lib.hid hb
            clear hall hb
            have c0 := HRk.out wb HBb.out k hlt
            by_cases hlm : m < k
            · have c1 := HRk.out wb HBb.out m (by omega)
              by_cases heq : z m = z k
              · go_wp2_with fail
                all_goals (try (exfalso; omega))
                go_quiet (fail)
                go_wp2_with fail
                all_goals (try (exfalso; omega))
                go_ret
                exact ⟨yes_no _, below_drewN HBb.out _⟩
              · go_wp2_with fail
                all_goals (try (exfalso; omega))
                go_quiet (fail)
                go_wp2_with fail
                all_goals (try (exfalso; omega))
                go_roundw
                case rel => exact ⟨m + 1, by omega, by go_num, all_snoc HAb.out heq, below_drewN HBb.out _⟩
                case measure => simp [intOf] <;> omega
            · have HX : Hid (∀ j, j < k + 1 → (0 ≤ z j ∧ z j < n) ∧ ∀ q, q < j → z q ≠ z j) := Lib.hid (all_snoc HA.out ⟨HR1.out, fun q hq => HAb.out q (by omega)⟩)
              go_wp2_with fail
              all_goals (try (exfalso; omega))
              go_roundw
              case rel => exact ⟨k + 1, by omega, by go_num, HX.out, HBb.out⟩
              case measure => simp [intOf] <;> omega
        · go_wp2_with fail
          all_goals (try (exfalso; omega))
          all_goals (go_ret; exact ⟨yes_no _, HBa.out⟩)
      · go_wp2_with fail
        all_goals (try (exfalso; omega))
        go_ret
        exact ⟨yes_if fun _ => ⟨rfl, fun i hi => HA.out i (by omega)⟩, HBa.out⟩
  · go_enter Try.func28, Try.ntmps28
    go_wp2_with fail
    all_goals (try (exfalso; omega))
    go_ret
    exact ⟨yes_no _, Below.refl _ _⟩
set_option maxHeartbeats 1000000 in
theorem ints_yes (A B : Option Addr) (n c d : Nat) (z : Nat → Int) (w : World) (hn : n ≤ 40) (hA : RZ w A n z) (hB : RZ w B n z) :
    Calls Try.prog 32 #[.slice A n c, .slice B n d] w fun e w' => e = .returned (.bool true) ∧ Below w.heap.size w w' := by
  have HA := Lib.hid hA
  have HB := Lib.hid hB
  clear hA hB
  go_enter Try.func32, Try.ntmps32
  go_wp2_with fail
  all_goals (try (exfalso; omega))
  go_loopw [5] (fun i wr => ∃ k : Nat, k ≤ n ∧ i = .int .i64 k ∧ Below w.heap.size w wr) (fun i _ => n - (intOf i).toNat)
  case atStart => exact ⟨0, by omega, rfl, Below.refl _ _⟩
  case round =>
    obtain ⟨k, hk, rfl, hb⟩ := hrel
    obtain ⟨wa, hwa⟩ : ∃ x, x = wr := ⟨_, rfl⟩
    subst hwa
    have HBa := Lib.hid hb
    clear hb
    by_cases hlt : k < n
    · obtain ⟨b, o, rfl, hl, h0⟩ := (HA.out.keep HBa.out) k hlt
      obtain ⟨b', o', rfl, hl', h0'⟩ := (HB.out.keep HBa.out) k hlt
      go_wp2_with fail
      all_goals (try (exfalso; omega))
      go_quiet (fail)
      go_wp2_with fail
      all_goals (try (exfalso; omega))
      go_roundw
      case rel => exact ⟨k + 1, by omega, by go_num, below_drewN HBa.out _⟩
      case measure => simp [intOf] <;> omega
    · go_wp2_with fail
      all_goals (try (exfalso; omega))
      go_ret
      exact ⟨rfl, HBa.out⟩
end Go.Proofs.Ytkhmlbkkdflnoaa.Nm
