/-
  THE WALKS over package settle, first part: Dispute.
-/
import Derived.Test.YtkhmlbkkdflnoaaMem
namespace Go.Proofs.Ytkhmlbkkdflnoaa
open Go.RowKit
set_option linter.unusedVariables false
attribute [local go_sem ↓] Go.wp_at_zero Go.wp_at_succ

/-- what Dispute returns, of at most 64 readings each -/
def dQ (X Y : Nat → Nat → Int) (n m : Nat) : Nat := fi (fun i => eq5 (X i) (Y i)) (min n m)
def dI (X Y : Nat → Nat → Int) (n m : Nat) : Bool := !(decide (dQ X Y n m = n) && decide (dQ X Y n m = m))
def dN (X Y : Nat → Nat → Int) (n m : Nat) : Int := if dI X Y n m = true then dQ X Y n m else 0

theorem eq5_iff {x y : Nat → Int} : eq5 x y = true ↔ x 0 = y 0 ∧ x 1 = y 1 ∧ x 2 = y 2 ∧ x 3 = y 3 ∧ x 4 = y 4 := by simp [eq5]
theorem ne5 {x y : Nat → Int} (h : eq5 x y = false) : ¬ x 0 = y 0 ∨ (x 0 = y 0 ∧ ¬ x 1 = y 1) ∨ (x 0 = y 0 ∧ x 1 = y 1 ∧ ¬ x 2 = y 2) ∨ (x 0 = y 0 ∧ x 1 = y 1 ∧ x 2 = y 2 ∧ ¬ x 3 = y 3) ∨ (x 0 = y 0 ∧ x 1 = y 1 ∧ x 2 = y 2 ∧ x 3 = y 3 ∧ ¬ x 4 = y 4) := by
  have h' : ¬ eq5 x y = true := by rw [h]; simp
  rw [eq5_iff] at h'
  omega
theorem dis_at {X Y : Nat → Nat → Int} {n m k : Nat} (hn : k < n) (hm : k < m) (hall : ∀ j, j < k → eq5 (X j) (Y j) = true) (he : eq5 (X k) (Y k) = false) : dN X Y n m = k ∧ dI X Y n m = true := by
  have hq : dQ X Y n m = k := fi_eq (by omega) hall (.inr he)
  have h1 : dI X Y n m = true := by simp [dI, hq]; omega
  exact ⟨by unfold dN; rw [if_pos h1, hq], h1⟩
theorem dis_end {X Y : Nat → Nat → Int} {n m k : Nat} (hk : k = min n m) (hne : n ≠ m) (hall : ∀ j, j < k → eq5 (X j) (Y j) = true) : dN X Y n m = k ∧ dI X Y n m = true := by
  have hq : dQ X Y n m = k := fi_eq (by omega) hall (.inl hk)
  have h1 : dI X Y n m = true := by simp [dI, hq]; omega
  exact ⟨by unfold dN; rw [if_pos h1, hq], h1⟩
theorem dis_no {X Y : Nat → Nat → Int} {n : Nat} (hall : ∀ j, j < n → eq5 (X j) (Y j) = true) : dN X Y n n = 0 ∧ dI X Y n n = false := by
  have hq : dQ X Y n n = n := fi_eq (by omega) hall (.inl (by omega))
  have h1 : dI X Y n n = false := by simp [dI, hq]
  exact ⟨by unfold dN; rw [h1]; simp, h1⟩

set_option maxRecDepth 100000 in
set_option maxHeartbeats 2000000 in
theorem disp_limit (A B : Option Addr) (n m c d : Nat) (w : World) (hn : n ≤ 9223372036854775807) (hm : m ≤ 9223372036854775807) (hl : 64 < n ∨ 64 < m) :
    Calls Try.prog 19 #[.slice A n c, .slice B m d] w fun e w' => e = .returned (.tuple #[.int .i64 0, .bool false, .int .i64 2]) ∧ w = w' := by
  have HL := Lib.hid hl
  clear hl
  go_enter Try.func19, Try.ntmps19
  go_wp2_with fail
  all_goals first
    | (go_ret3; exact ⟨rfl, rfl⟩)
    | (exfalso; have := HL.out; omega)

set_option maxRecDepth 100000 in
set_option maxHeartbeats 2000000 in
theorem disp_any (A B : Option Addr) (n m c d : Nat) (X Y : Nat → Nat → Int) (w : World) (hn : n ≤ 64) (hm : m ≤ 64) (hA : RG w A n X) (hB : RG w B m Y) :
    Calls Try.prog 19 #[.slice A n c, .slice B m d] w fun e w' => e = .returned (.tuple #[.int .i64 (dN X Y n m), .bool (dI X Y n m), .int .i64 0]) ∧ Below w.heap.size w w' := by
  have HA := Lib.hid hA
  have HB := Lib.hid hB
  clear hA hB
  obtain ⟨q, hq⟩ : ∃ q, min n m = q := ⟨_, rfl⟩
  have hqb : q ≤ n ∧ q ≤ m ∧ (q = n ∨ q = m) := by omega
  have HQ := Lib.hid hq
  have HQB := Lib.hid hqb
  have hq1 : q ≤ n := hqb.1
  have hq2 : q ≤ m := hqb.2.1
  clear hq hqb
  by_cases hnm : n < m
  · obtain rfl : q = n := by have := HQ.out; omega
    have e64 : decide ((64 : Int) < (m : Int)) = false := by simp; omega
    go_enter Try.func19, Try.ntmps19
    go_wp2_with fail
    all_goals (try (exfalso; omega))
    go_loopw [23] (fun i wr => ∃ k : Nat, k ≤ q ∧ i = .int .i64 k ∧ (∀ j, j < k → eq5 (X j) (Y j) = true) ∧ Below w.heap.size w wr) (fun i _ => q - (intOf i).toNat)
    case atStart => exact ⟨0, Nat.zero_le _, rfl, fun j hj => by omega, Below.refl _ _⟩
    case round =>
      obtain ⟨k, hk, rfl, hall, hbw⟩ := hrel
      have HALL := Lib.hid hall
      clear hall
      by_cases hlt : k < q
      · obtain ⟨b, o, rfl, hb, a0, a1, a2, a3, a4⟩ := (HA.out.keep hbw) k (by omega)
        obtain ⟨b', o', rfl, hb', b0, b1, b2, b3, b4⟩ := (HB.out.keep hbw) k (by omega)
        have i0 : (0 : Int) ≤ (k : Int) := by omega
        have i1 : (k : Int) < (q : Int) := by omega
        have i2 : (k : Int) < (m : Int) := by omega
        cases he : eq5 (X k) (Y k)
        · have HE := Lib.hid he
          have hres := Lib.hid (dis_at (X := X) (Y := Y) (n := q) (m := m) (k := k) (by omega) (by omega) HALL.out he)
          have hd := ne5 he
          clear he
          rcases hd with h0 | ⟨h0, h1⟩ | ⟨h0, h1, h2⟩ | ⟨h0, h1, h2, h3⟩ | ⟨h0, h1, h2, h3, h4⟩
          all_goals
            go_wp2_with fail
            go_quiet (fail)
            go_wp2_with fail
            go_ret3
            exact ⟨ret_three hres.out.1.symm hres.out.2.symm rfl, below_drewN hbw _⟩
        · have HE := Lib.hid he
          obtain ⟨h0, h1, h2, h3, h4⟩ := eq5_iff.1 he
          clear he
          go_wp2_with fail
          go_quiet (fail)
          go_wp2_with fail
          go_roundw
          case rel => exact ⟨k + 1, by omega, by go_num, all_snoc HALL.out HE.out, below_drewN hbw _⟩
          case measure => simp [intOf] <;> omega
      · obtain rfl : k = q := by omega
        have e7 : ((k : Int) != (m : Int)) = true := by simp; omega
        have hres := Lib.hid (dis_end (X := X) (Y := Y) (n := k) (m := m) (k := k) (by omega) (by omega) HALL.out)
        go_wp2_with fail
        all_goals (try (exfalso; omega))
        go_ret3
        exact ⟨ret_three hres.out.1.symm hres.out.2.symm rfl, hbw⟩
  · obtain rfl : q = m := by have := HQ.out; omega
    by_cases hmn : q < n
    · have e64 : decide ((64 : Int) < (q : Int)) = false := by simp; omega
      go_enter Try.func19, Try.ntmps19
      go_wp2_with fail
      all_goals (try (exfalso; omega))
      go_loopw [23] (fun i wr => ∃ k : Nat, k ≤ q ∧ i = .int .i64 k ∧ (∀ j, j < k → eq5 (X j) (Y j) = true) ∧ Below w.heap.size w wr) (fun i _ => q - (intOf i).toNat)
      case atStart => exact ⟨0, Nat.zero_le _, rfl, fun j hj => by omega, Below.refl _ _⟩
      case round =>
        obtain ⟨k, hk, rfl, hall, hbw⟩ := hrel
        have HALL := Lib.hid hall
        clear hall
        by_cases hlt : k < q
        · obtain ⟨b, o, rfl, hb, a0, a1, a2, a3, a4⟩ := (HA.out.keep hbw) k (by omega)
          obtain ⟨b', o', rfl, hb', b0, b1, b2, b3, b4⟩ := (HB.out.keep hbw) k (by omega)
          have i0 : (0 : Int) ≤ (k : Int) := by omega
          have i1 : (k : Int) < (n : Int) := by omega
          have i2 : (k : Int) < (q : Int) := by omega
          cases he : eq5 (X k) (Y k)
          · have HE := Lib.hid he
            have hres := Lib.hid (dis_at (X := X) (Y := Y) (n := n) (m := q) (k := k) (by omega) (by omega) HALL.out he)
            have hd := ne5 he
            clear he
            rcases hd with h0 | ⟨h0, h1⟩ | ⟨h0, h1, h2⟩ | ⟨h0, h1, h2, h3⟩ | ⟨h0, h1, h2, h3, h4⟩
            all_goals
              go_wp2_with fail
              go_quiet (fail)
              go_wp2_with fail
              go_ret3
              exact ⟨ret_three hres.out.1.symm hres.out.2.symm rfl, below_drewN hbw _⟩
          · have HE := Lib.hid he
            obtain ⟨h0, h1, h2, h3, h4⟩ := eq5_iff.1 he
            clear he
            go_wp2_with fail
            go_quiet (fail)
            go_wp2_with fail
            go_roundw
            case rel => exact ⟨k + 1, by omega, by go_num, all_snoc HALL.out HE.out, below_drewN hbw _⟩
            case measure => simp [intOf] <;> omega
        · obtain rfl : k = q := by omega
          have e7 : ((n : Int) != (k : Int)) = true := by simp; omega
          have hres := Lib.hid (dis_end (X := X) (Y := Y) (n := n) (m := k) (k := k) (by omega) (by omega) HALL.out)
          go_wp2_with fail
          all_goals (try (exfalso; omega))
          go_ret3
          exact ⟨ret_three hres.out.1.symm hres.out.2.symm rfl, hbw⟩
    · obtain rfl : q = n := by omega
      have e64 : decide ((64 : Int) < (q : Int)) = false := by simp; omega
      go_enter Try.func19, Try.ntmps19
      go_wp2_with fail
      all_goals (try (exfalso; omega))
      go_loopw [23] (fun i wr => ∃ k : Nat, k ≤ q ∧ i = .int .i64 k ∧ (∀ j, j < k → eq5 (X j) (Y j) = true) ∧ Below w.heap.size w wr) (fun i _ => q - (intOf i).toNat)
      case atStart => exact ⟨0, Nat.zero_le _, rfl, fun j hj => by omega, Below.refl _ _⟩
      case round =>
        obtain ⟨k, hk, rfl, hall, hbw⟩ := hrel
        have HALL := Lib.hid hall
        clear hall
        by_cases hlt : k < q
        · obtain ⟨b, o, rfl, hb, a0, a1, a2, a3, a4⟩ := (HA.out.keep hbw) k (by omega)
          obtain ⟨b', o', rfl, hb', b0, b1, b2, b3, b4⟩ := (HB.out.keep hbw) k (by omega)
          have i0 : (0 : Int) ≤ (k : Int) := by omega
          have i1 : (k : Int) < (q : Int) := by omega
          have i2 : (k : Int) < (q : Int) := by omega
          cases he : eq5 (X k) (Y k)
          · have HE := Lib.hid he
            have hres := Lib.hid (dis_at (X := X) (Y := Y) (n := q) (m := q) (k := k) (by omega) (by omega) HALL.out he)
            have hd := ne5 he
            clear he
            rcases hd with h0 | ⟨h0, h1⟩ | ⟨h0, h1, h2⟩ | ⟨h0, h1, h2, h3⟩ | ⟨h0, h1, h2, h3, h4⟩
            all_goals
              go_wp2_with fail
              go_quiet (fail)
              go_wp2_with fail
              go_ret3
              exact ⟨ret_three hres.out.1.symm hres.out.2.symm rfl, below_drewN hbw _⟩
          · have HE := Lib.hid he
            obtain ⟨h0, h1, h2, h3, h4⟩ := eq5_iff.1 he
            clear he
            go_wp2_with fail
            go_quiet (fail)
            go_wp2_with fail
            go_roundw
            case rel => exact ⟨k + 1, by omega, by go_num, all_snoc HALL.out HE.out, below_drewN hbw _⟩
            case measure => simp [intOf] <;> omega
        · obtain rfl : k = q := by omega
          have hres := Lib.hid (dis_no (X := X) (Y := Y) (n := k) HALL.out)
          go_wp2_with fail
          all_goals (try (exfalso; omega))
          go_ret3
          exact ⟨ret_three hres.out.1.symm hres.out.2.symm rfl, hbw⟩
end Go.Proofs.Ytkhmlbkkdflnoaa
