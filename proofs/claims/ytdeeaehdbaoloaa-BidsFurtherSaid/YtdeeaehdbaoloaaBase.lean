/-
  THE WALKS over package bids, third part: Baseline, Delivered.
-/
import Derived.Test.YtdeeaehdbaoloaaCount
namespace Go.Proofs.Ytdeeaehdbaoloaa
open Go.RowKit
set_option linter.unusedVariables false
attribute [local go_sem ↓] Go.wp_at_zero Go.wp_at_succ

/-- may the baseline be asked for? -/
def bOK (n m : Nat) (L : Nat → Nat) (z : Nat → Nat → Int) (day slot : Int) : Bool := vd n m L z && decide ((n ≠ 0 ∧ 0 ≤ day ∧ day ≤ n) ∧ 0 ≤ slot ∧ slot < L 0)
theorem bOK_iff {n m : Nat} {L : Nat → Nat} {z : Nat → Nat → Int} {day slot : Int} : bOK n m L z day slot = true ↔ vd n m L z = true ∧ (n ≠ 0 ∧ 0 ≤ day ∧ day ≤ n) ∧ 0 ≤ slot ∧ slot < L 0 := by simp [bOK]
/-- what Baseline returns -/
def bE (n m : Nat) (L : Nat → Nat) (z : Nat → Nat → Int) (p : Nat → Bool) (day slot : Int) : Int := if bOK n m L z day slot = true then (if 5 ≤ (ds p day.toNat).length then 0 else 4) else 1
def bV (n m : Nat) (L : Nat → Nat) (z : Nat → Nat → Int) (p : Nat → Bool) (day slot : Int) : Int := if bE n m L z p day slot = 0 then bs p z day.toNat slot.toNat else 0

set_option maxRecDepth 100000 in
set_option maxHeartbeats 2000000 in
theorem base_no (A : Option Addr) (n c : Nat) (L : Nat → Nat) (z : Nat → Nat → Int) (B : Option Addr) (m d : Nat) (day slot : Int) (w : World) (hn : n ≤ 9223372036854775807) (hm : m ≤ 9223372036854775807) (hR : RM w A n L z) (hno : bOK n m L z day slot = false) :
    Calls Try.prog 11 #[.slice A n c, .slice B m d, .int .i64 day, .int .i64 slot] w fun e w' => e = .returned (.tuple #[.int .i64 0, .int .i64 1]) ∧ w = w' := by
  have HR := Lib.hid hR
  have HN := Lib.hid hno
  clear hR hno
  cases hv : vd n m L z
  · go_enter Try.func11, Try.ntmps11
    go_wp2_with fail
    with_reducible refine (valid_any A n c L z B m d w hn hm HR.out).mono ?_
    rintro e w1 ⟨rfl, rfl⟩
    rw [hv]
    go_wp2_with fail
    go_ret2
    exact ⟨rfl, rfl⟩
  · have hvi := vd_iff.1 hv
    obtain rfl : n = m := hvi.1.2.symm
    have h60 := hvi.1.1
    clear hvi
    rcases Nat.eq_zero_or_pos n with h0 | h0
    · subst h0
      go_enter Try.func11, Try.ntmps11
      go_wp2_with fail
      with_reducible refine (valid_any A 0 c L z B 0 d w hn hm HR.out).mono ?_
      rintro e w1 ⟨rfl, rfl⟩
      rw [hv]
      go_wp2_with fail
      go_ret2
      exact ⟨rfl, rfl⟩
    · obtain ⟨b, o, R, C, rfl, hb, hc, hC, _, _⟩ := HR.out 0 h0
      rw [Nat.add_zero] at hc
      have e0 : ((n : Int) == 0) = false := by simp; omega
      go_enter Try.func11, Try.ntmps11
      go_wp2_with fail
      with_reducible refine (valid_any _ n c L z B n d w hn hm HR.out).mono ?_
      rintro e w1 ⟨rfl, rfl⟩
      rw [hv]
      go_wp2_with fail
      all_goals first
        | (go_ret2; exact ⟨rfl, rfl⟩)
        | (exfalso; have hq : ¬ bOK n n L z day slot = true := (by rw [HN.out]; simp); exact hq (bOK_iff.2 ⟨hv, ⟨by omega, by omega, by omega⟩, by omega, by omega⟩))

theorem dy_ok {n m : Nat} {L : Nat → Nat} {z : Nat → Nat → Int} {p : Nat → Bool} {D S : Nat} (hv : vd n m L z = true) (hD : D ≤ n) (hS : S < L 0) (h5 : 5 ≤ (ds p D).length) : ∀ i, i < 5 → (dy p D i < n ∧ S < L (dy p D i)) ∧ (0 ≤ z (dy p D i) S ∧ z (dy p D i) S ≤ 1000) := by
  intro i hi
  have h1 := dy_lt (p := p) (day := D) (i := i) (by omega)
  have h2 := (vd_iff.1 hv).2 (dy p D i) (by omega)
  have h3 : S < L (dy p D i) := by rw [h2.1.2.2]; exact hS
  exact ⟨⟨by omega, h3⟩, h2.2 S h3⟩

set_option maxRecDepth 100000 in
set_option maxHeartbeats 2000000 in
theorem base_yes (A : Option Addr) (n c : Nat) (L : Nat → Nat) (z : Nat → Nat → Int) (B : Option Addr) (m d : Nat) (p : Nat → Bool) (D S : Nat) (w : World) (hR : RM w A n L z) (hP : RP w B m p) (hok : bOK n m L z D S = true) :
    Calls Try.prog 11 #[.slice A n c, .slice B m d, .int .i64 (D : Int), .int .i64 (S : Int)] w fun e w' => e = .returned (.tuple #[.int .i64 (bV n m L z p D S), .int .i64 (bE n m L z p D S)]) ∧ Below w.heap.size w w' := by
  have HR := Lib.hid hR
  have HP := Lib.hid hP
  clear hR hP
  have hb := bOK_iff.1 hok
  have hvi := vd_iff.1 hb.1
  obtain rfl : n = m := hvi.1.2.symm
  have h60 := hvi.1.1
  have hv := hb.1
  have hn0 : 0 < n := by omega
  have hDn : D ≤ n := by omega
  have hSL : S < L 0 := by omega
  have hL0 := (hvi.2 0 hn0).1
  have DK : Hid (5 ≤ (ds p D).length → ∀ i, i < 5 → (dy p D i < n ∧ S < L (dy p D i)) ∧ (0 ≤ z (dy p D i) S ∧ z (dy p D i) S ≤ 1000)) := Lib.hid (dy_ok hv hDn hSL)
  have HE1 : Hid (5 ≤ (ds p D).length → bE n n L z p D S = 0 ∧ bV n n L z p D S = bs p z D S) := Lib.hid fun h => by simp [bE, bV, hok, h]
  have HE2 : Hid ((ds p D).length < 5 → bE n n L z p D S = 4 ∧ bV n n L z p D S = 0) := Lib.hid fun h => by
    have h' : ¬ 5 ≤ (ds p D).length := by omega
    simp [bE, bV, hok, h']
  clear hok hb hvi
  obtain ⟨b, o, R, C, rfl, hbl, hc, hC, _, _⟩ := HR.out 0 hn0
  rw [Nat.add_zero] at hc
  have e0 : ((n : Int) == 0) = false := by simp; omega
  go_enter Try.func11, Try.ntmps11
  go_wp2_with fail
  with_reducible refine (valid_any _ n c L z B n d w (by omega) (by omega) HR.out).mono ?_
  rintro e w1 ⟨rfl, rfl⟩
  rw [hv]
  go_wp2_with fail
  all_goals (try (exfalso; omega))
  with_reducible refine (count_any B n d p D w (by omega) (by omega) HP.out).mono ?_
  rintro e w2 ⟨hb2, (⟨h5, g, cap, rfl, hz⟩ | ⟨h5, rfl⟩)⟩
  · have HZ := Lib.hid hz
    clear hz hc
    go_wp2_with fail
    with_reducible refine (mean_any _ n c L z (some ⟨g, 0, none⟩) 5 cap (dy p D) S w2 (by omega) (by omega) (fun i hi => (DK.out h5 i hi).1) (by omega) (fun i hi => by have := (DK.out h5 i hi).2; omega) (HR.out.keep hb2) HZ.out).mono ?_
    rintro e w3 ⟨rfl, hb3⟩
    go_wp2_with fail
    go_ret2
    exact ⟨ret_two (by rw [(HE1.out h5).2]; rfl) (HE1.out h5).1.symm, bel_step hb2 hb3⟩
  · clear hc
    go_wp2_with fail
    go_ret2
    exact ⟨ret_two (HE2.out h5).2.symm (HE2.out h5).1.symm, hb2⟩

theorem baseline_any (A : Option Addr) (n c : Nat) (L : Nat → Nat) (z : Nat → Nat → Int) (B : Option Addr) (m d : Nat) (p : Nat → Bool) (day slot : Int) (w : World) (hn : n ≤ 9223372036854775807) (hm : m ≤ 9223372036854775807) (hR : RM w A n L z) (hP : RP w B m p) :
    Calls Try.prog 11 #[.slice A n c, .slice B m d, .int .i64 day, .int .i64 slot] w fun e w' => e = .returned (.tuple #[.int .i64 (bV n m L z p day slot), .int .i64 (bE n m L z p day slot)]) ∧ Below w.heap.size w w' := by
  cases hok : bOK n m L z day slot
  · exact (base_no A n c L z B m d day slot w hn hm hR hok).mono fun e w' x => ⟨x.1.trans (ret_two (by simp [bV, bE, hok]) (by simp [bE, hok])), by rw [← x.2]; exact Below.refl _ _⟩
  · have hb := bOK_iff.1 hok
    obtain ⟨D, rfl⟩ := Int.eq_ofNat_of_zero_le hb.2.1.2.1
    obtain ⟨S, rfl⟩ := Int.eq_ofNat_of_zero_le hb.2.2.1
    exact base_yes A n c L z B m d p D S w hR hP hok
end Go.Proofs.Ytdeeaehdbaoloaa
