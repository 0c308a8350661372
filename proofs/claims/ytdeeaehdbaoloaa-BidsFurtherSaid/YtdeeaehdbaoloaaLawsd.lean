/-
  THE WALKS OF THE LAWS over package bids, fourth part: BidsDelivery.
-/
import Derived.Test.YtdeeaehdbaoloaaLawsc
namespace Go.Proofs.Ytdeeaehdbaoloaa
open Go.RowKit
set_option linter.unusedVariables false
attribute [local go_sem ↓] Go.wp_at_zero Go.wp_at_succ

theorem deliv_res {n : Nat} {L : Nat → Nat} {z : Nat → Nat → Int} {p : Nat → Bool} {D : Nat} (hv : vd n n L z = true) (hD : D < n) :
    (5 ≤ (ds p D).length → dE n n L z p D = 0 ∧ dV n n L z p D = tot (lv p z D) (L D)) ∧ ((ds p D).length < 5 → dE n n L z p D = 4 ∧ dV n n L z p D = 0) := by
  have hb : dOK n n L z D = true := dOK_iff.2 ⟨hv, by omega, by omega⟩
  constructor
  · intro h; simp [dE, dV, hb, h]
  · intro h
    have h' : ¬ 5 ≤ (ds p D).length := by omega
    simp [dE, dV, hb, h']
theorem ct_self (p : Nat → Bool) (D : Nat) : ctB p D D = false := by simp [ctB]
theorem tot_le {f g : Nat → Int} {n : Nat} (h : ∀ i, i < n → f i ≤ g i) : tot f n ≤ tot g n := by
  induction n with
  | zero => simp [tot]
  | succ n ih =>
    have h1 := ih fun i hi => h i (by omega)
    have h2 := h n (by omega)
    simp only [tot]
    omega
theorem tot_one {f g : Nat → Int} {n k : Nat} {u : Int} (hk : k < n) (he : ∀ i, i < n → i ≠ k → g i = f i) (hg : g k = f k + u) : tot g n = tot f n + u := by
  induction n with
  | zero => omega
  | succ n ih =>
    simp only [tot]
    rcases Nat.lt_or_ge k n with hlt | hge
    · rw [ih hlt fun i hi hne => he i (by omega) hne, he n (by omega) (by omega)]; omega
    · obtain rfl : k = n := by omega
      rw [tot_congr fun i hi => he i (by omega) (by omega), hg]; omega
theorem lv_less {p : Nat → Bool} {z : Nat → Nat → Int} {D k l : Nat} (h5 : 5 ≤ (ds p D).length) (hk : k < l) : tot (lv p (upd z D k (z D k - 1)) D) l = tot (lv p z D) l + (if z D k ≤ bs p z D k then 1 else 0) := by
  refine tot_one hk (fun i hi hne => ?_) ?_
  · unfold lv
    rw [bs_upd h5 (ct_self p D)]
    simp [upd, hne]
  · unfold lv
    rw [bs_upd h5 (ct_self p D)]
    simp only [upd, and_self, if_true]
    split <;> omega

set_option maxRecDepth 100000 in
set_option maxHeartbeats 4000000 in
theorem del_no (A : Option Addr) (n c : Nat) (L : Nat → Nat) (z : Nat → Nat → Int) (B : Option Addr) (m d : Nat) (p : Nat → Bool) (day slot : Int) (w : World) (hn : n ≤ 9223372036854775807) (hm : m ≤ 9223372036854775807) (hR : RM w A n L z) (hP : RP w B m p) (hno : ¬ (uB n m L z = true ∧ (0 ≤ day ∧ day < n) ∧ 0 ≤ slot)) :
    Calls Try.prog 6 #[.slice A n c, .slice B m d, .int .i64 day, .int .i64 slot] w fun e w' => e = .returned (.bool true) ∧ Below w.heap.size w w' := by
  have HR := Lib.hid hR
  have HN := Lib.hid hno
  clear hR hno
  go_enter Try.func6, Try.ntmps6
  go_wp2_with fail
  with_reducible refine (head_any _).mono ?_
  rintro e w1 ⟨rfl, h⟩
  go_wp2_with fail
  with_reducible refine (usable_any A n c L z B m d _ hn hm (HR.out.keep h)).mono ?_
  rintro e w2 ⟨rfl, hb⟩
  have h := bel_step h hb
  clear hb
  cases hu : uB n m L z
  · go_wp2_with fail
    go_ret
    exact ⟨rfl, h⟩
  · go_wp2_with fail
    all_goals first
      | (go_ret; exact ⟨rfl, h⟩)
      | (exfalso; exact HN.out ⟨hu, ⟨by omega, by omega⟩, by omega⟩)

set_option maxRecDepth 100000 in
set_option maxHeartbeats 4000000 in
theorem del_yes (A : Option Addr) (n c : Nat) (L : Nat → Nat) (z : Nat → Nat → Int) (B : Option Addr) (d : Nat) (p : Nat → Bool) (D Q : Nat) (w : World) (hR : RM w A n L z) (hP : RP w B n p) (hu : uB n n L z = true) (hD : D < n) :
    Calls Try.prog 6 #[.slice A n c, .slice B n d, .int .i64 (D : Int), .int .i64 (Q : Int)] w fun e w' => e = .returned (.bool true) ∧ Below w.heap.size w w' := by
  have HR := Lib.hid hR
  have HP := Lib.hid hP
  clear hR hP
  have hv := uB_iff.1 hu
  have hvi := vd_iff.1 hv.1
  have h60 := hvi.1.1
  have hn0 := hv.2
  have hvd := hv.1
  have HL : Hid (∀ i, i < n → 1 ≤ L i ∧ L i ≤ 100) := Lib.hid fun i hi => by have := (hvi.2 i hi).1; omega
  have HL0 : Hid (∀ i, i < n → L i = L 0) := Lib.hid fun i hi => (hvi.2 i hi).1.2.2
  have hL0 := HL.out 0 hn0
  have hLD := HL.out D hD
  have hL24 : 1 ≤ L D ∧ L D ≤ 24 := by have := (hvi.2 D hD).1; omega
  have hk : Q % L D < L D := Nat.mod_lt _ (by omega)
  have eq2 : (Q : Int) % (L D : Int) = ((Q % L D : Nat) : Int) := by omega
  obtain ⟨k, hkq⟩ : ∃ k, Q % L D = k := ⟨_, rfl⟩
  rw [hkq] at hk eq2
  clear hkq
  have HZ := Lib.hid (hvi.2 D hD).2
  have HDR := Lib.hid (deliv_res (p := p) hvd hD)
  have HBR : Hid (∀ s, s < L D → (5 ≤ (ds p D).length → bE n n L z p D s = 0 ∧ bV n n L z p D s = bs p z D s) ∧ ((ds p D).length < 5 → bE n n L z p D s = 4 ∧ bV n n L z p D s = 0)) := Lib.hid fun s hs => base_res (p := p) hvd hn0 (by omega) (by rw [← HL0.out D hD]; exact hs)
  have HBB : Hid (5 ≤ (ds p D).length → ∀ s, s < L D → 0 ≤ bs p z D s ∧ bs p z D s ≤ 1000) := Lib.hid fun h5 s hs => bs_bd fun i hi => (dy_ok hvd (by omega) (by rw [← HL0.out D hD]; exact hs) h5 i hi).2
  have HLV : Hid (5 ≤ (ds p D).length → ∀ s, s < L D → 0 ≤ lv p z D s ∧ lv p z D s ≤ 1000 ∧ lv p z D s ≤ bs p z D s) := Lib.hid fun h5 s hs => by
    have h1 := HBB.out h5 s hs
    have h2 := HZ.out s hs
    unfold lv
    omega
  have hzk := HZ.out k hk
  have HV2 : Hid (1 ≤ z D k → vd n n L (upd z D k (z D k - 1)) = true) := Lib.hid fun hq => vd_upd hvd (by omega)
  have HDR2 : Hid (1 ≤ z D k → (5 ≤ (ds p D).length → dE n n L (upd z D k (z D k - 1)) p D = 0 ∧ dV n n L (upd z D k (z D k - 1)) p D = tot (lv p (upd z D k (z D k - 1)) D) (L D))) := Lib.hid fun hq => (deliv_res (p := p) (HV2.out hq) hD).1
  have HLL : Hid (5 ≤ (ds p D).length → tot (lv p (upd z D k (z D k - 1)) D) (L D) = tot (lv p z D) (L D) + (if z D k ≤ bs p z D k then 1 else 0)) := Lib.hid fun h5 => lv_less h5 hk
  have hLD0 : ¬ L D = 0 := by omega
  clear hv hvi
  go_enter Try.func6, Try.ntmps6
  go_wp2_with fail
  with_reducible refine (head_any _).mono ?_
  rintro e w1 ⟨rfl, h⟩
  go_wp2_with fail
  with_reducible refine (usable_any A n c L z B n d _ (by omega) (by omega) (HR.out.keep h)).mono ?_
  rintro e w2 ⟨rfl, hb⟩
  have h := bel_step h hb
  clear hb
  rw [hu]
  have EQ2 := Lib.hid eq2
  clear eq2
  obtain ⟨b1, o1, R1, C1, rfl, hb1, hc1, hC1, _, _⟩ := (HR.out.keep h) D hD
  have i1 : (D : Int) < (n : Int) := by omega
  go_wp2_with fail
  all_goals (try (exfalso; omega))
  rw [EQ2.out]
  with_reducible refine (delivered_any _ n c L z B n d p D _ (by omega) (by omega) (HR.out.keep h) (HP.out.keep h)).mono ?_
  rintro e w3 ⟨rfl, hb3⟩
  have h3 := bel_step h hb3
  clear hb3 hc1
  by_cases h5 : 5 ≤ (ds p D).length
  · have r1 := HDR.out.1 h5
    rw [r1.1, r1.2]
    clear r1
    go_wp2_with fail
    go_loopw [14, 15, 16] (fun a s i wr => ∃ q : Nat, q ≤ L D ∧ i = .int .i64 q ∧ a = .int .i64 (tot (lv p z D) q) ∧ s = .int .i64 (tot (bs p z D) q) ∧ Below w3.heap.size w3 wr) (fun _ _ i _ => L D - (intOf i).toNat)
    case atStart => exact ⟨0, Nat.zero_le _, rfl, rfl, rfl, Below.refl _ _⟩
    case round =>
      obtain ⟨q, hq, rfl, rfl, rfl, hbw⟩ := hrel
      have h4 := bel_step h3 hbw
      obtain ⟨b2, o2, R2, C2, e2, hb2, hc2, hC2, _, hZ2⟩ := (HR.out.keep h4) D hD
      cases e2
      have t1 : 0 ≤ tot (lv p z D) q ∧ tot (lv p z D) q ≤ q * 1000 := tot_pos (n := q) (fun i hi => ⟨(HLV.out h5 i (by omega)).1, (HLV.out h5 i (by omega)).2.1⟩) q (Nat.le_refl _)
      have t2 : 0 ≤ tot (bs p z D) q ∧ tot (bs p z D) q ≤ q * 1000 := tot_pos (n := q) (fun i hi => HBB.out h5 i (by omega)) q (Nat.le_refl _)
      by_cases hlt : q < L D
      · obtain ⟨b3, o3, rfl, hb3, hc3⟩ := hZ2 q hlt
        clear hZ2
        have hzq := HZ.out q hlt
        have hbq := HBB.out h5 q hlt
        have i2 : (q : Int) < (L D : Int) := by omega
        have r2 := (HBR.out q hlt).1 h5
        have HR2 := Lib.hid r2
        clear r2
        go_wp2_with fail
        all_goals (try (exfalso; omega))
        with_reducible refine (baseline_any _ n c L z B n d p D q _ (by omega) (by omega) (HR.out.keep h4) (HP.out.keep h4)).mono ?_
        rintro e w5 ⟨rfl, hb5⟩
        have d2 := old_at hc2 hb5
        have d3 := old_at hc3 hb5
        have k5 := bel_step hbw hb5
        clear hb5 hc2 hc3
        rw [HR2.out.1, HR2.out.2]
        have HS1 : Hid (tot (lv p z D) (q + 1) = tot (lv p z D) q + max 0 (bs p z D q - z D q)) := Lib.hid rfl
        have HS2 : Hid (tot (bs p z D) (q + 1) = tot (bs p z D) q + bs p z D q) := Lib.hid rfl
        generalize tot (lv p z D) q = X1 at t1 HS1 ⊢
        generalize tot (bs p z D) q = X2 at t2 HS2 ⊢
        generalize bs p z D q = V at hbq HS1 HS2 ⊢
        by_cases hg : 0 < V - z D q
        · go_wp2_with fail
          all_goals (try (exfalso; omega))
          go_roundw
          case rel => exact ⟨q + 1, by omega, by go_num, by rw [HS1.out]; congr 1; omega, by rw [HS2.out], k5⟩
          case measure => simp [intOf] <;> omega
        · have hg2 : V - z D q ≤ 0 := by omega
          go_wp2_with fail
          all_goals (try (exfalso; omega))
          go_roundw
          case rel => exact ⟨q + 1, by omega, by go_num, by rw [HS1.out]; congr 1; omega, by rw [HS2.out], k5⟩
          case measure => simp [intOf] <;> omega
      · obtain rfl : q = L D := by omega
        have hle : tot (lv p z D) (L D) ≤ tot (bs p z D) (L D) := tot_le fun i hi => (HLV.out h5 i hi).2.2
        obtain ⟨b3, o3, rfl, hb3, hc3⟩ := hZ2 k hk
        clear hZ2
        have i2 : (k : Int) < (L D : Int) := by omega
        have hll := HLL.out h5
        have hbk := HBB.out h5 k hk
        have r2 := (HBR.out k hk).1 h5
        obtain ⟨mr, hmr⟩ : ∃ mr : Int, (if z D k ≤ bs p z D k then 1 else 0) = mr := ⟨_, rfl⟩
        have hmz : (z D k ≤ bs p z D k ∧ mr = 1) ∨ (bs p z D k < z D k ∧ mr = 0) := by
          split at hmr
          · exact .inl ⟨by assumption, hmr.symm⟩
          · exact .inr ⟨by omega, hmr.symm⟩
        rw [hmr] at hll
        have HLLh := Lib.hid hll
        have HR2 := Lib.hid r2
        have HMZ := Lib.hid hmz
        clear hll r2 hmr hmz
        by_cases hz0 : z D k = 0
        · have e0 : (z D k == 0) = true := by simpa using hz0
          rw [hz0] at hc3
          clear hz0 hzk e0
          go_wp2_with fail
          all_goals (try (exfalso; omega))
          go_ret
          exact ⟨rfl, h4⟩
        · have e0 : (z D k == 0) = false := by simpa using hz0
          have hz1 : 1 ≤ z D k := by omega
          have r3 := HDR2.out hz1 h5
          have HR3 := Lib.hid r3
          clear hz0 r3
          go_wp2_with fail
          all_goals (try (exfalso; omega))
          with_reducible refine (copy_any _ n c L z _ (by omega) HL.out (HR.out.keep h4)).mono ?_
          rintro e w5 ⟨⟨g, cap, G, C, rfl, hcap, hcp⟩, hb5⟩
          have h5' := bel_step h4 hb5
          obtain ⟨q1, q2, q3, q4, q5⟩ := hcp.at hD hk
          have hws := h4.size
          have HCP := Lib.hid hcp
          clear hcp hc2 hc3
          go_wp2_with fail
          have hcp5 := HCP.out.write hD hk (z D k - 1)
          have h6 : Below w.heap.size w (w5.setCell ⟨G D, k, none⟩ (.int .i64 (z D k - 1))) := h5'.setCell (p := ⟨G D, k, none⟩) (by simp; omega) _
          obtain ⟨w6, hw6⟩ : ∃ w6, w5.setCell ⟨G D, k, none⟩ (.int .i64 (z D k - 1)) = w6 := ⟨_, rfl⟩
          rw [hw6] at h6 hcp5 ⊢
          have HRM := Lib.hid hcp5.rm
          clear hw6 hcp5 q1 q2 q3 q5 hb5 h5'
          with_reducible refine (delivered_any _ n cap L (upd z D k (z D k - 1)) B n d p D _ (by omega) (by omega) HRM.out (HP.out.keep h6)).mono ?_
          rintro e w7 ⟨rfl, hb7⟩
          have h7 := bel_step h6 hb7
          clear hb7
          rw [HR3.out.1, HR3.out.2, HLLh.out]
          go_wp2_with fail
          with_reducible refine (baseline_any _ n c L z B n d p D k _ (by omega) (by omega) (HR.out.keep h7) (HP.out.keep h7)).mono ?_
          rintro e w8 ⟨rfl, hb8⟩
          have h8 := bel_step h7 hb8
          clear hb8
          rw [HR2.out.1, HR2.out.2]
          obtain ⟨b5, o5, R5, C5, e5, hb5, hc5, hC5, _, hZ5⟩ := (HR.out.keep h8) D hD
          cases e5
          obtain ⟨b6, o6, rfl, hb6, hc6⟩ := hZ5 k hk
          clear hZ5
          generalize tot (lv p z D) (L D) = X1 at t1 hle ⊢
          generalize tot (bs p z D) (L D) = X2 at t2 hle ⊢
          have hmz := HMZ.out
          generalize bs p z D k = V at hbk hmz ⊢
          rcases hmz with ⟨hg, rfl⟩ | ⟨hg2, rfl⟩
          · go_wp2_with fail
            all_goals (try (exfalso; omega))
            go_ret
            exact ⟨rfl, h8⟩
          · go_wp2_with fail
            all_goals (try (exfalso; omega))
            go_ret
            exact ⟨rfl, h8⟩
  · have r1 := HDR.out.2 (by omega)
    rw [r1.1, r1.2]
    go_wp2_with fail
    go_ret
    exact ⟨rfl, h3⟩
theorem walk_delivery (A : Option Addr) (n c : Nat) (L : Nat → Nat) (z : Nat → Nat → Int) (B : Option Addr) (m d : Nat) (p : Nat → Bool) (day slot : Int) (w : World) (hn : n ≤ 9223372036854775807) (hm : m ≤ 9223372036854775807) (hR : RM w A n L z) (hP : RP w B m p) :
    Calls Try.prog 6 #[.slice A n c, .slice B m d, .int .i64 day, .int .i64 slot] w fun e w' => e = .returned (.bool true) ∧ Below w.heap.size w w' := by
  by_cases hy : uB n m L z = true ∧ (0 ≤ day ∧ day < n) ∧ 0 ≤ slot
  · obtain ⟨hu, hd, hs⟩ := hy
    obtain ⟨D, rfl⟩ := Int.eq_ofNat_of_zero_le hd.1
    obtain ⟨Q, rfl⟩ := Int.eq_ofNat_of_zero_le hs
    obtain rfl : n = m := (vd_iff.1 (uB_iff.1 hu).1).1.2.symm
    exact del_yes A n c L z B d p D Q w hR hP hu (by omega)
  · exact del_no A n c L z B m d p day slot w hn hm hR hP hy
end Go.Proofs.Ytdeeaehdbaoloaa
