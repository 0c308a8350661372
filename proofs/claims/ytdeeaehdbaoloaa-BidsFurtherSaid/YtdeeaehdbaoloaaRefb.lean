/-
  THE WALKS over the reference implementation of bids, second part: Baseline, Delivered.
-/
import Derived.Test.YtdeeaehdbaoloaaRef
namespace Go.Proofs.Ytdeeaehdbaoloaa
open Go.RowKit
set_option linter.unusedVariables false
attribute [local go_sem ↓] Go.wp_at_zero Go.wp_at_succ

theorem tot_rev5 (f : Nat → Int) : tot (fun i => f (4 - i)) 5 = tot f 5 := by simp [tot]; omega

set_option maxRecDepth 100000 in
set_option maxHeartbeats 2000000 in
theorem rbase_no (A : Option Addr) (n c : Nat) (L : Nat → Nat) (z : Nat → Nat → Int) (B : Option Addr) (m d : Nat) (day slot : Int) (w : World) (hn : n ≤ 9223372036854775807) (hm : m ≤ 9223372036854775807) (hR : RM w A n L z) (hno : bOK n m L z day slot = false) :
    Calls Try.prog 12 #[.slice A n c, .slice B m d, .int .i64 day, .int .i64 slot] w fun e w' => e = .returned (.tuple #[.int .i64 0, .int .i64 1]) ∧ Below w.heap.size w w' := by
  have HR := Lib.hid hR
  have HN := Lib.hid hno
  clear hR hno
  cases hv : vd n m L z
  · go_enter Try.func12, Try.ntmps12
    go_wp2_with fail
    with_reducible refine (rvalid A n c L z B m d w hn hm HR.out).mono ?_
    rintro e w1 ⟨rfl, hb⟩
    rw [hv]
    go_wp2_with fail
    go_ret2
    exact ⟨rfl, hb⟩
  · have hvi := vd_iff.1 hv
    obtain rfl : n = m := hvi.1.2.symm
    have h60 := hvi.1.1
    clear hvi
    rcases Nat.eq_zero_or_pos n with h0 | h0
    · subst h0
      go_enter Try.func12, Try.ntmps12
      go_wp2_with fail
      with_reducible refine (rvalid A 0 c L z B 0 d w hn hm HR.out).mono ?_
      rintro e w1 ⟨rfl, hb⟩
      rw [hv]
      go_wp2_with fail
      go_ret2
      exact ⟨rfl, hb⟩
    · have e0 : ((n : Int) == 0) = false := by simp; omega
      go_enter Try.func12, Try.ntmps12
      go_wp2_with fail
      with_reducible refine (rvalid A n c L z B n d w hn hm HR.out).mono ?_
      rintro e w1 ⟨rfl, hb1⟩
      obtain ⟨b, o, R, C, rfl, hb, hc, hC, _, _⟩ := (HR.out.keep hb1) 0 h0
      rw [Nat.add_zero] at hc
      rw [hv]
      go_wp2_with fail
      all_goals first
        | (go_ret2; exact ⟨rfl, hb1⟩)
        | (exfalso; have hq : ¬ bOK n n L z day slot = true := (by rw [HN.out]; simp); exact hq (bOK_iff.2 ⟨hv, ⟨by omega, by omega, by omega⟩, by omega, by omega⟩))

set_option maxRecDepth 100000 in
set_option maxHeartbeats 2000000 in
theorem rbase_yes (A : Option Addr) (n c : Nat) (L : Nat → Nat) (z : Nat → Nat → Int) (B : Option Addr) (m d : Nat) (p : Nat → Bool) (D S : Nat) (w : World) (hR : RM w A n L z) (hP : RP w B m p) (hok : bOK n m L z D S = true) :
    Calls Try.prog 12 #[.slice A n c, .slice B m d, .int .i64 (D : Int), .int .i64 (S : Int)] w fun e w' => e = .returned (.tuple #[.int .i64 (bV n m L z p D S), .int .i64 (bE n m L z p D S)]) ∧ Below w.heap.size w w' := by
  have HR := Lib.hid hR
  have HP := Lib.hid hP
  clear hR hP
  have hb := bOK_iff.1 hok
  have hvi := vd_iff.1 hb.1
  obtain rfl : n = m := hvi.1.2.symm
  have h60 := hvi.1.1
  have hv := hb.1
  have hn0 : 0 < n := by omega
  have hDn : D ≤ n := by omega
  have hSL : S < L 0 := by omega
  have hL0 := (hvi.2 0 hn0).1
  have DK : Hid (5 ≤ (ds p D).length → ∀ i, i < 5 → (dy p D i < n ∧ S < L (dy p D i)) ∧ (0 ≤ z (dy p D i) S ∧ z (dy p D i) S ≤ 1000)) := Lib.hid (dy_ok hv hDn hSL)
  have HE1 : Hid (5 ≤ (ds p D).length → bE n n L z p D S = 0 ∧ bV n n L z p D S = bs p z D S) := Lib.hid fun h => by simp [bE, bV, hok, h]
  have HE2 : Hid ((ds p D).length < 5 → bE n n L z p D S = 4 ∧ bV n n L z p D S = 0) := Lib.hid fun h => by
    have h' : ¬ 5 ≤ (ds p D).length := by omega
    simp [bE, bV, hok, h']
  clear hok hb hvi
  have e0 : ((n : Int) == 0) = false := by simp; omega
  go_enter Try.func12, Try.ntmps12
  go_wp2_with fail
  with_reducible refine (rvalid A n c L z B n d w (by omega) (by omega) HR.out).mono ?_
  rintro e w1 ⟨rfl, hb1⟩
  obtain ⟨b, o, R, C, rfl, hbl, hc, hC, _, _⟩ := (HR.out.keep hb1) 0 hn0
  rw [Nat.add_zero] at hc
  rw [hv]
  go_wp2_with fail
  all_goals (try (exfalso; omega))
  with_reducible refine (rcount B n d p D w1 (by omega) (by omega) (HP.out.keep hb1)).mono ?_
  rintro e w2 ⟨(⟨h5, A5, c5, rfl, hz⟩ | ⟨h5, A5, c5, rfl⟩), hb2⟩
  · have HZ := Lib.hid hz
    have h2 := bel_step hb1 hb2
    have hR2 := Lib.hid (HR.out.keep h2)
    clear hz hc
    go_wp2_with fail
    go_loop [12, 13] (fun s i => ∃ k : Nat, k ≤ 5 ∧ i = .int .i64 k ∧ s = .int .i64 (tot (fun i => z (dy p D (4 - i)) S) k)) (fun _ i => 5 - (intOf i).toNat)
    case atStart => exact ⟨0, Nat.zero_le _, rfl, rfl⟩
    case round =>
      obtain ⟨k, hk, rfl, rfl⟩ := hrel
      have tb : 0 ≤ tot (fun i => z (dy p D (4 - i)) S) k ∧ tot (fun i => z (dy p D (4 - i)) S) k ≤ k * 1000 := tot_pos (n := 5) (fun i hi => (DK.out h5 (4 - i) (by omega)).2) k hk
      by_cases hlt : k < 5
      · obtain ⟨b1, o1, rfl, hb3, hc1⟩ := HZ.out k hlt
        replace hc1 : w2.cell? ⟨b1, o1 + k, none⟩ = some (.int .i64 (dy p D (4 - k) : Int)) := hc1
        have hdk := DK.out h5 (4 - k) (by omega)
        obtain ⟨b4, o4, R4, C4, e4, hb4, hc4, hC4, hN4, hZ4⟩ := hR2.out (dy p D (4 - k)) hdk.1.1
        cases e4
        obtain ⟨b6, o6, rfl, hb6, hc6⟩ := hZ4 S hdk.1.2
        clear hN4 hZ4
        have HT : Hid (tot (fun i => z (dy p D (4 - i)) S) (k + 1) = tot (fun i => z (dy p D (4 - i)) S) k + z (dy p D (4 - k)) S) := Lib.hid rfl
        generalize tot (fun i => z (dy p D (4 - i)) S) k = T at tb HT ⊢
        generalize hE : dy p D (4 - k) = E at hc1 hc4 hc6 hdk HT ⊢
        clear hE
        have i1 : (E : Int) < (n : Int) := by omega
        have i2 : (S : Int) < (L E : Int) := by omega
        go_wp2_with fail
        all_goals (try (exfalso; omega))
        go_round
        case rel => exact ⟨k + 1, by omega, by go_num, by rw [HT.out]⟩
        case measure => simp [intOf] <;> omega
      · obtain rfl : k = 5 := by omega
        go_wp2_with fail
        go_ret2
        exact ⟨ret_two (by rw [(HE1.out h5).2, tot_rev5 (fun i => z (dy p D i) S)]; rfl) (HE1.out h5).1.symm, h2⟩
  · have h2 := bel_step hb1 hb2
    have e5 : decide (((ds p D).length : Int) < 5) = true := by simp; omega
    clear hc
    go_wp2_with fail
    go_ret2
    exact ⟨ret_two (HE2.out h5).2.symm (HE2.out h5).1.symm, h2⟩

theorem rbaseline (A : Option Addr) (n c : Nat) (L : Nat → Nat) (z : Nat → Nat → Int) (B : Option Addr) (m d : Nat) (p : Nat → Bool) (day slot : Int) (w : World) (hn : n ≤ 9223372036854775807) (hm : m ≤ 9223372036854775807) (hR : RM w A n L z) (hP : RP w B m p) :
    Calls Try.prog 12 #[.slice A n c, .slice B m d, .int .i64 day, .int .i64 slot] w fun e w' => e = .returned (.tuple #[.int .i64 (bV n m L z p day slot), .int .i64 (bE n m L z p day slot)]) ∧ Below w.heap.size w w' := by
  cases hok : bOK n m L z day slot
  · exact (rbase_no A n c L z B m d day slot w hn hm hR hok).mono fun e w' x => ⟨x.1.trans (ret_two (by simp [bV, bE, hok]) (by simp [bE, hok])), x.2⟩
  · have hb := bOK_iff.1 hok
    obtain ⟨D, rfl⟩ := Int.eq_ofNat_of_zero_le hb.2.1.2.1
    obtain ⟨S, rfl⟩ := Int.eq_ofNat_of_zero_le hb.2.2.1
    exact rbase_yes A n c L z B m d p D S w hR hP hok

set_option maxRecDepth 100000 in
set_option maxHeartbeats 2000000 in
theorem rdeliv_no (A : Option Addr) (n c : Nat) (L : Nat → Nat) (z : Nat → Nat → Int) (B : Option Addr) (m d : Nat) (day : Int) (w : World) (hn : n ≤ 9223372036854775807) (hm : m ≤ 9223372036854775807) (hR : RM w A n L z) (hno : dOK n m L z day = false) :
    Calls Try.prog 14 #[.slice A n c, .slice B m d, .int .i64 day] w fun e w' => e = .returned (.tuple #[.int .i64 0, .int .i64 1]) ∧ Below w.heap.size w w' := by
  have HR := Lib.hid hR
  have HN := Lib.hid hno
  clear hR hno
  cases hv : vd n m L z
  · go_enter Try.func14, Try.ntmps14
    go_wp2_with fail
    with_reducible refine (rvalid A n c L z B m d w hn hm HR.out).mono ?_
    rintro e w1 ⟨rfl, hb⟩
    rw [hv]
    go_wp2_with fail
    go_ret2
    exact ⟨rfl, hb⟩
  · go_enter Try.func14, Try.ntmps14
    go_wp2_with fail
    with_reducible refine (rvalid A n c L z B m d w hn hm HR.out).mono ?_
    rintro e w1 ⟨rfl, hb1⟩
    rw [hv]
    go_wp2_with fail
    all_goals first
      | (go_ret2; exact ⟨rfl, hb1⟩)
      | (exfalso; have hq : ¬ dOK n m L z day = true := (by rw [HN.out]; simp); exact hq (dOK_iff.2 ⟨hv, by omega, by omega⟩))

set_option maxRecDepth 100000 in
set_option maxHeartbeats 2000000 in
theorem rdeliv_yes (A : Option Addr) (n c : Nat) (L : Nat → Nat) (z : Nat → Nat → Int) (B : Option Addr) (d : Nat) (p : Nat → Bool) (D : Nat) (w : World) (hR : RM w A n L z) (hP : RP w B n p) (hv : vd n n L z = true) (hD : D < n) :
    Calls Try.prog 14 #[.slice A n c, .slice B n d, .int .i64 (D : Int)] w fun e w' => e = .returned (.tuple #[.int .i64 (dV n n L z p D), .int .i64 (dE n n L z p D)]) ∧ Below w.heap.size w w' := by
  have HR := Lib.hid hR
  have HP := Lib.hid hP
  clear hR hP
  have hvi := vd_iff.1 hv
  have h60 := hvi.1.1
  have hrow := hvi.2 D hD
  have hL0 := hrow.1
  have HZ := Lib.hid hrow.2
  have hok : dOK n n L z D = true := dOK_iff.2 ⟨hv, by omega, by omega⟩
  have DK : Hid (5 ≤ (ds p D).length → ∀ S, S < L D → ∀ i, i < 5 → (dy p D i < n ∧ S < L (dy p D i)) ∧ (0 ≤ z (dy p D i) S ∧ z (dy p D i) S ≤ 1000)) := Lib.hid fun h5 S hS => dy_ok hv (by omega) (by omega) h5
  have HE1 : Hid (5 ≤ (ds p D).length → dE n n L z p D = 0 ∧ dV n n L z p D = tot (lv p z D) (L D)) := Lib.hid fun h => by simp [dE, dV, hok, h]
  have HE2 : Hid ((ds p D).length < 5 → dE n n L z p D = 4 ∧ dV n n L z p D = 0) := Lib.hid fun h => by
    have h' : ¬ 5 ≤ (ds p D).length := by omega
    simp [dE, dV, hok, h']
  have HB : Hid (∀ S : Nat, S < L D → bE n n L z p D S = (if 5 ≤ (ds p D).length then 0 else 4) ∧ bV n n L z p D S = (if 5 ≤ (ds p D).length then bs p z D S else 0)) := Lib.hid fun S hS => by
    have hb : bOK n n L z D S = true := bOK_iff.2 ⟨hv, ⟨by omega, by omega, by omega⟩, by omega, by omega⟩
    simp only [bE, bV, hb, if_true]
    by_cases h5 : 5 ≤ (ds p D).length <;> simp [h5]
  have hL1 : 1 ≤ L D ∧ L D ≤ 24 := by omega
  clear hok hvi hrow hL0
  go_enter Try.func14, Try.ntmps14
  go_wp2_with fail
  with_reducible refine (rvalid A n c L z B n d w (by omega) (by omega) HR.out).mono ?_
  rintro e w1 ⟨rfl, hb1⟩
  rw [hv]
  go_wp2_with fail
  all_goals (try (exfalso; omega))
  have hR1 := Lib.hid (HR.out.keep hb1)
  have hP1 := Lib.hid (HP.out.keep hb1)
  go_loopw [9, 10] (fun a i wr => ∃ k : Nat, k ≤ L D ∧ i = .int .i64 k ∧ a = .int .i64 (tot (lv p z D) k) ∧ (k = 0 ∨ 5 ≤ (ds p D).length) ∧ Below w1.heap.size w1 wr) (fun _ i _ => L D - (intOf i).toNat)
  case atStart => exact ⟨0, Nat.zero_le _, rfl, rfl, .inl rfl, Below.refl _ _⟩
  case round =>
    obtain ⟨k, hk, rfl, rfl, hk5, hbw⟩ := hrel
    have HK5 := Lib.hid hk5
    clear hk5
    obtain ⟨b2, o2, R, C, e2, hbl, hc2, hC, _, hZr⟩ := (hR1.out.keep hbw) D hD
    subst e2
    have i1 : (D : Int) < (n : Int) := by omega
    by_cases hlt : k < L D
    · obtain ⟨b3, o3, rfl, hb3, hc3⟩ := hZr k hlt
      clear hZr
      have hzk := HZ.out k hlt
      have i2 : (k : Int) < (L D : Int) := by omega
      have hbk := HB.out k hlt
      have HBK := Lib.hid hbk
      clear hbk
      go_wp2_with fail
      with_reducible refine (rbaseline _ n c L z B n d p D k wr (by omega) (by omega) (hR1.out.keep hbw) (hP1.out.keep hbw)).mono ?_
      rintro e w4 ⟨rfl, hb4⟩
      have h4 := bel_step hbw hb4
      have d2 := old_at hc2 hb4
      have d3 := old_at hc3 hb4
      clear hb4 hc2 hc3
      rw [HBK.out.1, HBK.out.2]
      by_cases h5 : 5 ≤ (ds p D).length
      · rw [if_pos h5, if_pos h5]
        have hbb := bs_bd fun i hi => (DK.out h5 k hlt i hi).2
        have tb : 0 ≤ tot (lv p z D) k ∧ tot (lv p z D) k ≤ k * 1000 := tot_pos (n := k) (fun i hi => lv_bd (fun j hj => (DK.out h5 i (by omega) j hj).2) (HZ.out i (by omega)).1) k (Nat.le_refl _)
        have HS : Hid (tot (lv p z D) (k + 1) = tot (lv p z D) k + max 0 (bs p z D k - z D k)) := Lib.hid rfl
        generalize tot (lv p z D) k = T at tb HS ⊢
        generalize bs p z D k = V at hbb HS ⊢
        by_cases hg : z D k < V
        · go_wp2_with fail
          all_goals (try (exfalso; omega))
          go_roundw
          case rel => exact ⟨k + 1, by omega, by go_num, by rw [HS.out]; congr 1; omega, .inr h5, h4⟩
          case measure => simp [intOf] <;> omega
        · have hg2 : V ≤ z D k := by omega
          go_wp2_with fail
          all_goals (try (exfalso; omega))
          go_roundw
          case rel => exact ⟨k + 1, by omega, by go_num, by rw [HS.out]; congr 1; omega, .inr h5, h4⟩
          case measure => simp [intOf] <;> omega
      · rw [if_neg h5, if_neg h5]
        go_wp2_with fail
        go_ret2
        exact ⟨ret_two (HE2.out (by omega)).2.symm (HE2.out (by omega)).1.symm, bel_step hb1 h4⟩
    · obtain rfl : k = L D := by omega
      have h5 : 5 ≤ (ds p D).length := by rcases HK5.out with h | h; omega; exact h
      clear hZr
      go_wp2_with fail
      all_goals (try (exfalso; omega))
      go_ret2
      exact ⟨ret_two (HE1.out h5).2.symm (HE1.out h5).1.symm, bel_step hb1 hbw⟩

theorem rdelivered (A : Option Addr) (n c : Nat) (L : Nat → Nat) (z : Nat → Nat → Int) (B : Option Addr) (m d : Nat) (p : Nat → Bool) (day : Int) (w : World) (hn : n ≤ 9223372036854775807) (hm : m ≤ 9223372036854775807) (hR : RM w A n L z) (hP : RP w B m p) :
    Calls Try.prog 14 #[.slice A n c, .slice B m d, .int .i64 day] w fun e w' => e = .returned (.tuple #[.int .i64 (dV n m L z p day), .int .i64 (dE n m L z p day)]) ∧ Below w.heap.size w w' := by
  cases hok : dOK n m L z day
  · exact (rdeliv_no A n c L z B m d day w hn hm hR hok).mono fun e w' x => ⟨x.1.trans (ret_two (by simp [dV, dE, hok]) (by simp [dE, hok])), x.2⟩
  · have hb := dOK_iff.1 hok
    obtain ⟨D, rfl⟩ := Int.eq_ofNat_of_zero_le hb.2.1
    obtain rfl : n = m := (vd_iff.1 hb.1).1.2.symm
    exact rdeliv_yes A n c L z B d p D w hR hP hb.1 (by omega)
end Go.Proofs.Ytdeeaehdbaoloaa
