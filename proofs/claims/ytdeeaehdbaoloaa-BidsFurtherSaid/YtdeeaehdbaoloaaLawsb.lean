/-
  THE WALKS OF THE LAWS over package bids, second part: BidsMean.
-/
import Derived.Test.YtdeeaehdbaoloaaLaws
namespace Go.Proofs.Ytdeeaehdbaoloaa
open Go.RowKit
set_option linter.unusedVariables false
attribute [local go_sem ↓] Go.wp_at_zero Go.wp_at_succ

theorem base_res {n : Nat} {L : Nat → Nat} {z : Nat → Nat → Int} {p : Nat → Bool} {D S : Nat} (hv : vd n n L z = true) (hn : 0 < n) (hD : D ≤ n) (hS : S < L 0) :
    (5 ≤ (ds p D).length → bE n n L z p D S = 0 ∧ bV n n L z p D S = bs p z D S) ∧ ((ds p D).length < 5 → bE n n L z p D S = 4 ∧ bV n n L z p D S = 0) := by
  have hb : bOK n n L z D S = true := bOK_iff.2 ⟨hv, ⟨by omega, by omega, by omega⟩, by omega, by omega⟩
  constructor
  · intro h; simp [bE, bV, hb, h]
  · intro h
    have h' : ¬ 5 ≤ (ds p D).length := by omega
    simp [bE, bV, hb, h']

set_option maxRecDepth 100000 in
set_option maxHeartbeats 2000000 in
theorem mean_no (A : Option Addr) (n c : Nat) (L : Nat → Nat) (z : Nat → Nat → Int) (B : Option Addr) (m d : Nat) (day slot : Int) (w : World) (hn : n ≤ 9223372036854775807) (hm : m ≤ 9223372036854775807) (hR : RM w A n L z)
    (hno : ¬ (uB n m L z = true ∧ (0 ≤ day ∧ day ≤ n) ∧ 0 ≤ slot ∧ slot < L 0)) :
    Calls Try.prog 5 #[.slice A n c, .slice B m d, .int .i64 day, .int .i64 slot] w fun e w' => e = .returned (.bool true) ∧ Below w.heap.size w w' := by
  have HR := Lib.hid hR
  have HN := Lib.hid hno
  clear hR hno
  go_enter Try.func5, Try.ntmps5
  go_wp2_with fail
  with_reducible refine (head_any _).mono ?_
  rintro e w1 ⟨rfl, h⟩
  go_wp2_with fail
  with_reducible refine (usable_any A n c L z B m d _ hn hm (HR.out.keep h)).mono ?_
  rintro e w2 ⟨rfl, hb⟩
  have h := bel_step h hb
  clear hb
  cases hu : uB n m L z
  · go_wp2_with fail
    go_ret
    exact ⟨rfl, h⟩
  · have hv := uB_iff.1 hu
    obtain ⟨b, o, R, C, rfl, hb, hc, hC, _, _⟩ := (HR.out.keep h) 0 hv.2
    rw [Nat.add_zero] at hc
    have hv2 := hv.2
    go_wp2_with fail
    all_goals first
      | (go_ret; exact ⟨rfl, h⟩)
      | (exfalso; exact HN.out ⟨hu, ⟨by omega, by omega⟩, by omega, by omega⟩)

set_option maxRecDepth 100000 in
set_option maxHeartbeats 4000000 in
theorem mean_yes (A : Option Addr) (n c : Nat) (L : Nat → Nat) (z : Nat → Nat → Int) (B : Option Addr) (d : Nat) (p : Nat → Bool) (D S : Nat) (w : World) (hR : RM w A n L z) (hP : RP w B n p) (hu : uB n n L z = true) (hD : D ≤ n) (hS : S < L 0) :
    Calls Try.prog 5 #[.slice A n c, .slice B n d, .int .i64 (D : Int), .int .i64 (S : Int)] w fun e w' => e = .returned (.bool true) ∧ Below w.heap.size w w' := by
  have HR := Lib.hid hR
  have HP := Lib.hid hP
  clear hR hP
  have hv := uB_iff.1 hu
  have hvi := vd_iff.1 hv.1
  have h60 := hvi.1.1
  have hn0 := hv.2
  have HV := Lib.hid hvi.2
  have HBR : Hid ((5 ≤ (ds p D).length → bE n n L z p D S = 0 ∧ bV n n L z p D S = bs p z D S) ∧ ((ds p D).length < 5 → bE n n L z p D S = 4 ∧ bV n n L z p D S = 0)) := Lib.hid (base_res hv.1 hn0 hD hS)
  have hSr : ∀ i, i < n → S < L i := fun i hi => by have := (hvi.2 i hi).1; omega
  have hfz : ∀ i, i < n → 0 ≤ (fun i => z i S) i ∧ (fun i => z i S) i ≤ 1000 := fun i hi => (hvi.2 i hi).2 S (hSr i hi)
  have HS := Lib.hid hSr
  have HF := Lib.hid hfz
  have hL24 := (hvi.2 0 hn0).1
  clear hv hvi hSr hfz
  obtain ⟨b, o, R, C, rfl, hb0, hc0, hC, _, _⟩ := HR.out 0 hn0
  go_enter Try.func5, Try.ntmps5
  go_wp2_with fail
  with_reducible refine (head_any _).mono ?_
  rintro e w1 ⟨rfl, h⟩
  go_wp2_with fail
  with_reducible refine (usable_any _ n c L z B n d _ (by omega) (by omega) (HR.out.keep h)).mono ?_
  rintro e w2 ⟨rfl, hb⟩
  have h := bel_step h hb
  have hc := old_at hc0 h
  rw [Nat.add_zero] at hc
  clear hb hc0
  rw [hu]
  go_wp2_with fail
  all_goals (try (exfalso; omega))
  with_reducible refine (baseline_any _ n c L z B n d p D S _ (by omega) (by omega) (HR.out.keep h) (HP.out.keep h)).mono ?_
  rintro e w3 ⟨rfl, hb⟩
  have h := bel_step h hb
  clear hb hc
  have hR3 := Lib.hid (HR.out.keep h)
  have hP3 := Lib.hid (HP.out.keep h)
  go_wp2_with fail
  go_loop [13, 14, 15, 16, 17] (fun a s l t i => ∃ k : Nat, k ≤ D ∧ i = .int .i64 k ∧ a = .int .i64 (am p D k : Int) ∧ s = .int .i64 (asu p (fun i => z i S) D k) ∧ l = .int .i64 (al p (fun i => z i S) D k) ∧ t = .int .i64 (ah p (fun i => z i S) D k)) (fun _ _ _ _ i => D - (intOf i).toNat)
  case atStart => exact ⟨0, Nat.zero_le _, rfl, rfl, rfl, rfl, rfl⟩
  case round =>
    obtain ⟨k, hk, rfl, rfl, rfl, rfl, rfl⟩ := hrel
    have hal := am_le p D k
    have hab := as_bd (p := p) (D := D) HF.out k (by omega)
    by_cases hlt : k < D
    · obtain ⟨b1, o1, R1, C1, e1, hb1, hc1, hC1, _, hZ1⟩ := hR3.out k (by omega)
      cases e1
      obtain ⟨b2, o2, rfl, hb2, hc2⟩ := hZ1 S (HS.out k (by omega))
      clear hZ1
      have hzk : 0 ≤ z k S ∧ z k S ≤ 1000 := HF.out k (by omega)
      have hSk := HS.out k (by omega)
      have i1 : (k : Int) < (n : Int) := by omega
      have i2 : (S : Int) < (L k : Int) := by omega
      go_wp2_with fail
      with_reducible refine (counts_any B n d p k D w3 (by omega) hD (by omega) hP3.out).mono ?_
      rintro e w4 ⟨rfl, rfl⟩
      cases hct : ctB p k D
      · have HA1 : Hid (am p D (k + 1) = am p D k) := by show _ = _; simp [am, hct]
        have HA2 : Hid (asu p (fun i => z i S) D (k + 1) = asu p (fun i => z i S) D k) := by show _ = _; simp [asu, hct]
        have HA3 : Hid (al p (fun i => z i S) D (k + 1) = al p (fun i => z i S) D k) := by show _ = _; simp [al, hct]
        have HA4 : Hid (ah p (fun i => z i S) D (k + 1) = ah p (fun i => z i S) D k) := by show _ = _; simp [ah, hct]
        go_wp2_with fail
        go_round
        case rel => exact ⟨k + 1, by omega, by go_num, by rw [HA1.out], by rw [HA2.out], by rw [HA3.out], by rw [HA4.out]⟩
        case measure => simp [intOf] <;> omega
      · have HA1 : Hid (am p D (k + 1) = am p D k + 1) := by show _ = _; simp [am, hct]
        have HA2 : Hid (asu p (fun i => z i S) D (k + 1) = asu p (fun i => z i S) D k + z k S) := by show _ = _; simp [asu, hct]
        have HA3 : Hid (al p (fun i => z i S) D (k + 1) = min (al p (fun i => z i S) D k) (z k S)) := by show _ = _; simp [al, hct]
        have HA4 : Hid (ah p (fun i => z i S) D (k + 1) = max (ah p (fun i => z i S) D k) (z k S)) := by show _ = _; simp [ah, hct]
        generalize asu p (fun i => z i S) D k = xs at hab HA2 ⊢
        generalize al p (fun i => z i S) D k = xl at hab HA3 ⊢
        generalize ah p (fun i => z i S) D k = xh at hab HA4 ⊢
        generalize am p D k = xm at hal HA1 ⊢
        by_cases g1 : xl < z k S <;> by_cases g2 : z k S < xh
        all_goals
          go_wp2_with fail
          all_goals (try (exfalso; omega))
          go_round
          case rel => exact ⟨k + 1, by omega, by go_num, by rw [HA1.out]; go_num, by rw [HA2.out], by rw [HA3.out]; congr 1; omega, by rw [HA4.out]; congr 1; omega⟩
          case measure => simp [intOf] <;> omega
    · obtain rfl : k = D := by omega
      have hbt := as_between p (fun i => z i S) k k
      by_cases h5 : 5 ≤ (ds p k).length
      · have h55 := as_five (f := fun i => z i S) h5
        have hbr := HBR.out.1 h5
        have hbs : bs p z k S = asu p (fun i => z i S) k k / 5 := by rw [h55.2]; rfl
        rw [hbr.1, hbr.2, hbs]
        rw [h55.1] at hbt ⊢
        clear h55 hbr hbs
        generalize asu p (fun i => z i S) k k = xs at hab hbt ⊢
        generalize al p (fun i => z i S) k k = xl at hab hbt ⊢
        generalize ah p (fun i => z i S) k k = xh at hab hbt ⊢
        obtain ⟨v, hv⟩ : ∃ v, xs / 5 = v := ⟨_, rfl⟩
        rw [hv]
        have g1 : xl ≤ v := by omega
        have g2 : v ≤ xh := by omega
        have g3 : 5 * v ≤ xs := by omega
        have g4 : xs - 5 < 5 * v := by omega
        have g5 : 0 ≤ v ∧ v ≤ 1000 := by omega
        clear hv hbt
        go_wp2_with fail
        all_goals (try (exfalso; omega))
        go_ret
        exact ⟨rfl, h⟩
      · have h4 := am_few (p := p) (D := k) (by omega)
        have hbr := HBR.out.2 (by omega)
        rw [hbr.1, hbr.2]
        generalize am p k k = xm at h4 hal hbt ⊢
        clear hbt hbr
        go_wp2_with fail
        all_goals (try (exfalso; omega))
        go_ret
        exact ⟨rfl, h⟩

theorem walk_mean (A : Option Addr) (n c : Nat) (L : Nat → Nat) (z : Nat → Nat → Int) (B : Option Addr) (m d : Nat) (p : Nat → Bool) (day slot : Int) (w : World) (hn : n ≤ 9223372036854775807) (hm : m ≤ 9223372036854775807) (hR : RM w A n L z) (hP : RP w B m p) :
    Calls Try.prog 5 #[.slice A n c, .slice B m d, .int .i64 day, .int .i64 slot] w fun e w' => e = .returned (.bool true) ∧ Below w.heap.size w w' := by
  by_cases hy : uB n m L z = true ∧ (0 ≤ day ∧ day ≤ n) ∧ 0 ≤ slot ∧ slot < L 0
  · obtain ⟨hu, hd, hs, hs2⟩ := hy
    obtain ⟨D, rfl⟩ := Int.eq_ofNat_of_zero_le hd.1
    obtain ⟨S, rfl⟩ := Int.eq_ofNat_of_zero_le hs
    obtain rfl : n = m := (vd_iff.1 (uB_iff.1 hu).1).1.2.symm
    exact mean_yes A n c L z B d p D S w hR hP hu (by omega) (by omega)
  · exact mean_no A n c L z B m d day slot w hn hm hR hy
end Go.Proofs.Ytdeeaehdbaoloaa
