/-
  THE WALKS OF THE LAWS over package bids, third part: BidsUnshifted, BidsMore.
-/
import Derived.Test.YtdeeaehdbaoloaaLawsb
import Derived.Test.YtdeeaehdbaoloaaCopy
namespace Go.Proofs.Ytdeeaehdbaoloaa
open Go.RowKit
set_option linter.unusedVariables false
attribute [local go_sem ↓] Go.wp_at_zero Go.wp_at_succ

theorem bs_upd {p : Nat → Bool} {z : Nat → Nat → Int} {D k s x : Nat} {v : Int} (h5 : 5 ≤ (ds p D).length) (hc : ctB p k D = false) : bs p (upd z k s v) D x = bs p z D x := by
  unfold bs
  congr 1
  apply tot_congr
  intro i hi
  have hne : dy p D i ≠ k := fun e => by
    have := at_ct (p := p) (D := D) hi (by omega)
    rw [e, hc] at this
    cases this
  simp [upd, hne]
theorem vd_upd {n : Nat} {L : Nat → Nat} {z : Nat → Nat → Int} {k s : Nat} {v : Int} (hv : vd n n L z = true) (h : 0 ≤ v ∧ v ≤ 1000) : vd n n L (upd z k s v) = true := by
  have hvi := vd_iff.1 hv
  refine vd_iff.2 ⟨hvi.1, fun i hi => ⟨(hvi.2 i hi).1, fun j hj => ?_⟩⟩
  have := (hvi.2 i hi).2 j hj
  unfold upd
  split <;> omega
theorem base_upd {n : Nat} {L : Nat → Nat} {z : Nat → Nat → Int} {p : Nat → Bool} {D S k s : Nat} {v : Int} (hv : vd n n L z = true) (hn : 0 < n) (hD : D ≤ n) (hS : S < L 0) (hx : 0 ≤ v ∧ v ≤ 1000) (hc : ctB p k D = false) :
    bE n n L (upd z k s v) p D S = bE n n L z p D S ∧ bV n n L (upd z k s v) p D S = bV n n L z p D S := by
  have h1 := base_res (p := p) hv hn hD hS
  have h2 := base_res (p := p) (vd_upd (k := k) (s := s) hv hx) hn hD hS
  by_cases h5 : 5 ≤ (ds p D).length
  · rw [(h1.1 h5).1, (h1.1 h5).2, (h2.1 h5).1, (h2.1 h5).2, bs_upd h5 hc]
    exact ⟨rfl, rfl⟩
  · rw [(h1.2 (by omega)).1, (h1.2 (by omega)).2, (h2.2 (by omega)).1, (h2.2 (by omega)).2]
    exact ⟨rfl, rfl⟩

set_option maxRecDepth 100000 in
set_option maxHeartbeats 4000000 in
theorem uns_no (A : Option Addr) (n c : Nat) (L : Nat → Nat) (z : Nat → Nat → Int) (B : Option Addr) (m d : Nat) (p : Nat → Bool) (day slot which num : Int) (w : World) (hn : n ≤ 9223372036854775807) (hm : m ≤ 9223372036854775807) (hR : RM w A n L z) (hP : RP w B m p) (hno : ¬ (uB n m L z = true ∧ 0 ≤ which ∧ (0 ≤ num ∧ num ≤ 1000) ∧ (0 ≤ day ∧ day ≤ n) ∧ 0 ≤ slot)) :
    Calls Try.prog 4 #[.slice A n c, .slice B m d, .int .i64 day, .int .i64 slot, .int .i64 which, .int .i64 num] w fun e w' => e = .returned (.bool true) ∧ Below w.heap.size w w' := by
  have HR := Lib.hid hR
  have HN := Lib.hid hno
  clear hR hno
  go_enter Try.func4, Try.ntmps4
  go_wp2_with fail
  with_reducible refine (head_any _).mono ?_
  rintro e w1 ⟨rfl, h⟩
  go_wp2_with fail
  with_reducible refine (usable_any A n c L z B m d _ hn hm (HR.out.keep h)).mono ?_
  rintro e w2 ⟨rfl, hb⟩
  have h := bel_step h hb
  clear hb
  cases hu : uB n m L z
  · go_wp2_with fail
    go_ret
    exact ⟨rfl, h⟩
  · go_wp2_with fail
    all_goals first
      | (go_ret; exact ⟨rfl, h⟩)
      | (exfalso; exact HN.out ⟨hu, by omega, ⟨by omega, by omega⟩, ⟨by omega, by omega⟩, by omega⟩)

set_option maxRecDepth 100000 in
set_option maxHeartbeats 4000000 in
theorem uns_yes (A : Option Addr) (n c : Nat) (L : Nat → Nat) (z : Nat → Nat → Int) (B : Option Addr) (d : Nat) (p : Nat → Bool) (D S Q : Nat) (num : Int) (w : World) (hR : RM w A n L z) (hP : RP w B n p) (hu : uB n n L z = true) (hx : 0 ≤ num ∧ num ≤ 1000) (hD : D ≤ n) :
    Calls Try.prog 4 #[.slice A n c, .slice B n d, .int .i64 (D : Int), .int .i64 (S : Int), .int .i64 (Q : Int), .int .i64 num] w fun e w' => e = .returned (.bool true) ∧ Below w.heap.size w w' := by
  have HR := Lib.hid hR
  have HP := Lib.hid hP
  clear hR hP
  have hv := uB_iff.1 hu
  have hvi := vd_iff.1 hv.1
  have h60 := hvi.1.1
  have hn0 := hv.2
  have hvd := hv.1
  have HL : Hid (∀ i, i < n → 1 ≤ L i ∧ L i ≤ 100) := Lib.hid fun i hi => by have := (hvi.2 i hi).1; omega
  have HL0 : Hid (∀ i, i < n → L i = L 0) := Lib.hid fun i hi => (hvi.2 i hi).1.2.2
  have hL0 := HL.out 0 hn0
  have hk : Q % n < n := Nat.mod_lt _ hn0
  have eq1 : (Q : Int).tmod (n : Int) = ((Q % n : Nat) : Int) := by rw [Int.tmod_eq_emod_of_nonneg (by omega)]; omega
  obtain ⟨k, hkq⟩ : ∃ k, Q % n = k := ⟨_, rfl⟩
  have HKQ := Lib.hid hkq
  rw [hkq] at hk eq1
  have eq2 : (Q : Int) % (n : Int) = (k : Int) := by rw [← hkq]; omega
  clear hkq
  have hLk := HL.out k hk
  have hT : S % L k < L k := Nat.mod_lt _ (by omega)
  have eq3 : (S : Int).tmod (L k : Int) = ((S % L k : Nat) : Int) := by rw [Int.tmod_eq_emod_of_nonneg (by omega)]; omega
  obtain ⟨T, hTe⟩ : ∃ T, S % L k = T := ⟨_, rfl⟩
  rw [hTe] at hT eq3
  clear hTe
  have en0 : ((n : Int) == 0) = false := by simp; omega
  have eL0 : ((L k : Int) == 0) = false := by simp; omega
  have HBU : Hid (ctB p k D = false → ∀ s, s < L 0 → bE n n L (upd z k T num) p D s = bE n n L z p D s ∧ bV n n L (upd z k T num) p D s = bV n n L z p D s) := Lib.hid fun hc s hs => base_upd hvd hn0 hD hs hx hc
  clear hv hvi
  go_enter Try.func4, Try.ntmps4
  go_wp2_with fail
  with_reducible refine (head_any _).mono ?_
  rintro e w1 ⟨rfl, h⟩
  go_wp2_with fail
  with_reducible refine (usable_any A n c L z B n d _ (by omega) (by omega) (HR.out.keep h)).mono ?_
  rintro e w2 ⟨rfl, hb⟩
  have h := bel_step h hb
  clear hb
  rw [hu]
  have EQ1 := Lib.hid eq1
  have EQ2 := Lib.hid eq2
  have EQ3 := Lib.hid eq3
  clear eq1 eq2 eq3
  go_wp2_with fail
  all_goals (try (exfalso; omega))
  rw [EQ2.out]
  with_reducible refine (counts_any B n d p k D _ hk hD (by omega) (HP.out.keep h)).mono ?_
  rintro e w3 ⟨rfl, rfl⟩
  cases hct : ctB p k D
  · have HB2 := Lib.hid (HBU.out hct)
    go_wp2_with fail
    with_reducible refine (copy_any A n c L z _ (by omega) HL.out (HR.out.keep h)).mono ?_
    rintro e w4 ⟨⟨g, cap, G, C, rfl, hcap, hcp⟩, hb4⟩
    have h4 := bel_step h hb4
    obtain ⟨q1, q2, q3, q4, q5⟩ := hcp.at hk hT
    have hws := h.size
    have eq3 := EQ3.out
    have i1 : (k : Int) < (n : Int) := by omega
    have i2 : (T : Int) < (L k : Int) := by omega
    have i3 : (0 : Int) ≤ (k : Int) := by omega
    have i4 : (0 : Int) ≤ (T : Int) := by omega
    have HCP := Lib.hid hcp
    clear hcp
    have hLk0 : ¬ L k = 0 := by omega
    go_wp2_with fail
    go_still_tail 13, (by kernel_rfl)
    go_wp2_with fail
    have hcp5 := HCP.out.write hk hT num
    have h5 : Below w.heap.size w (w4.setCell ⟨G k, T, none⟩ (.int .i64 num)).drew := (h4.setCell (p := ⟨G k, T, none⟩) (by simp; omega) _).drew
    obtain ⟨w5, hw5⟩ : ∃ w5, (w4.setCell ⟨G k, T, none⟩ (.int .i64 num)).drew = w5 := ⟨_, rfl⟩
    have hcp6 : CP w2.heap.size n G C L (upd z k T num) (.slice (some ⟨g, 0, none⟩) n cap) w5 := by rw [← hw5]; exact hcp5
    rw [hw5] at h5 ⊢
    have HRM := Lib.hid hcp6.rm
    have HR5 := Lib.hid (HR.out.keep h5)
    have HP5 := Lib.hid (HP.out.keep h5)
    clear hw5 hcp5 hcp6 q1 q2 q3 q5 eq3 hb4 h4
    go_loopw [13, 17] (fun u i wr => ∃ s : Nat, s ≤ L 0 ∧ i = .int .i64 s ∧ u = .bool true ∧ Below w5.heap.size w5 wr) (fun _ i _ => L 0 - (intOf i).toNat)
    case atStart => exact ⟨0, Nat.zero_le _, rfl, rfl, Below.refl _ _⟩
    case round =>
      obtain ⟨s, hs, rfl, rfl, hbw⟩ := hrel
      obtain ⟨b0, o0, R0, C0, rfl, _, hc0, hC0, _, _⟩ := (HR5.out.keep hbw) 0 hn0
      rw [Nat.add_zero] at hc0
      by_cases hlt : s < L 0
      · have hbu := HB2.out s hlt
        have HBQ := Lib.hid hbu
        clear hbu
        go_wp2_with fail
        with_reducible refine (baseline_any _ n c L z B n d p D s _ (by omega) (by omega) (HR5.out.keep hbw) (HP5.out.keep hbw)).mono ?_
        rintro e w6 ⟨rfl, hb6⟩
        have h6 := bel_step hbw hb6
        clear hb6 hc0
        go_wp2_with fail
        with_reducible refine (baseline_any _ n cap L (upd z k T num) B n d p D s _ (by omega) (by omega) (HRM.out.keep h6) (HP5.out.keep h6)).mono ?_
        rintro e w7 ⟨rfl, hb7⟩
        have h7 := bel_step h6 hb7
        clear hb7
        rw [HBQ.out.1, HBQ.out.2]
        go_wp2_with fail
        go_roundw
        case rel => exact ⟨s + 1, by omega, by go_num, rfl, h7⟩
        case measure => simp [intOf] <;> omega
      · go_wp2_with fail
        all_goals (try (exfalso; omega))
        go_ret
        exact ⟨rfl, bel_step h5 hbw⟩
  · go_wp2_with fail
    go_ret
    exact ⟨rfl, h⟩
theorem walk_unshifted (A : Option Addr) (n c : Nat) (L : Nat → Nat) (z : Nat → Nat → Int) (B : Option Addr) (m d : Nat) (p : Nat → Bool) (day slot which num : Int) (w : World) (hn : n ≤ 9223372036854775807) (hm : m ≤ 9223372036854775807) (hR : RM w A n L z) (hP : RP w B m p) :
    Calls Try.prog 4 #[.slice A n c, .slice B m d, .int .i64 day, .int .i64 slot, .int .i64 which, .int .i64 num] w fun e w' => e = .returned (.bool true) ∧ Below w.heap.size w w' := by
  by_cases hy : uB n m L z = true ∧ 0 ≤ which ∧ (0 ≤ num ∧ num ≤ 1000) ∧ (0 ≤ day ∧ day ≤ n) ∧ 0 ≤ slot
  · obtain ⟨hu, hw, hx, hd, hs⟩ := hy
    obtain ⟨D, rfl⟩ := Int.eq_ofNat_of_zero_le hd.1
    obtain ⟨S, rfl⟩ := Int.eq_ofNat_of_zero_le hs
    obtain ⟨Q, rfl⟩ := Int.eq_ofNat_of_zero_le hw
    obtain rfl : n = m := (vd_iff.1 (uB_iff.1 hu).1).1.2.symm
    exact uns_yes A n c L z B d p D S Q num w hR hP hu hx (by omega)
  · exact uns_no A n c L z B m d p day slot which num w hn hm hR hP hy

theorem ds_pw (p : Nat → Bool) (D : Nat) : (ds p D).Pairwise (fun a b => b < a) := by
  induction D with
  | zero => simp [ds]
  | succ D ih =>
    simp only [ds]
    split
    · exact ih
    · exact List.pairwise_cons.2 ⟨fun d hd => ds_lt p D d hd, ih⟩
theorem dy_inj {p : Nat → Bool} {D i j : Nat} (hi : i < (ds p D).length) (hj : j < (ds p D).length) (h : dy p D i = dy p D j) : i = j := by
  unfold dy at h
  rw [List.getD_eq_getElem?_getD, List.getD_eq_getElem?_getD, List.getElem?_eq_getElem hi, List.getElem?_eq_getElem hj] at h
  simp only [Option.getD_some] at h
  rcases Nat.lt_trichotomy i j with hlt | rfl | hgt
  · have := List.pairwise_iff_getElem.1 (ds_pw p D) i j hi hj hlt; omega
  · rfl
  · have := List.pairwise_iff_getElem.1 (ds_pw p D) j i hj hi hgt; omega
theorem tot_bump {f g : Nat → Int} {d : Nat → Nat} {k m : Nat} {u : Int} (hu : 0 ≤ u) (hg : ∀ i, i < m → g i = if d i = k then f i + u else f i) (hd : ∀ i j, i < m → j < m → d i = d j → i = j) : tot f m ≤ tot g m ∧ tot g m ≤ tot f m + u := by
  induction m with
  | zero => simp [tot]; exact hu
  | succ m ih =>
    have h1 := ih (fun i hi => hg i (by omega)) (fun i j hi hj => hd i j (by omega) (by omega))
    have h2 := hg m (by omega)
    simp only [tot]
    by_cases hm : d m = k
    · rw [if_pos hm] at h2
      have h3 : tot g m = tot f m := tot_congr fun i hi => by
        rw [hg i (by omega), if_neg]
        intro hx
        have := hd i m (by omega) (by omega) (hx.trans hm.symm)
        omega
      omega
    · rw [if_neg hm] at h2
      omega
theorem bs_more {p : Nat → Bool} {z : Nat → Nat → Int} {D k s : Nat} {u : Int} (h5 : 5 ≤ (ds p D).length) (hu : 0 ≤ u) : bs p z D s ≤ bs p (upd z k s (z k s + u)) D s ∧ bs p (upd z k s (z k s + u)) D s ≤ bs p z D s + (u + 4) / 5 := by
  have := tot_bump (f := fun i => z (dy p D i) s) (g := fun i => upd z k s (z k s + u) (dy p D i) s) (d := dy p D) (k := k) (m := 5) hu (fun i hi => by
    simp only [upd]
    by_cases hk : dy p D i = k
    · simp [hk]
    · simp [hk]) (fun i j hi hj h => dy_inj (by omega) (by omega) h)
  unfold bs
  omega

set_option maxRecDepth 100000 in
set_option maxHeartbeats 4000000 in
theorem more_no (A : Option Addr) (n c : Nat) (L : Nat → Nat) (z : Nat → Nat → Int) (B : Option Addr) (m d : Nat) (p : Nat → Bool) (day slot which num : Int) (w : World) (hn : n ≤ 9223372036854775807) (hm : m ≤ 9223372036854775807) (hR : RM w A n L z) (hP : RP w B m p) (hno : ¬ (uB n m L z = true ∧ (1 ≤ day ∧ day ≤ n) ∧ (0 ≤ slot ∧ slot < L 0) ∧ 0 ≤ which ∧ (0 ≤ num ∧ num ≤ 1000))) :
    Calls Try.prog 7 #[.slice A n c, .slice B m d, .int .i64 day, .int .i64 slot, .int .i64 which, .int .i64 num] w fun e w' => e = .returned (.bool true) ∧ Below w.heap.size w w' := by
  have HR := Lib.hid hR
  have HN := Lib.hid hno
  clear hR hno
  go_enter Try.func7, Try.ntmps7
  go_wp2_with fail
  with_reducible refine (head_any _).mono ?_
  rintro e w1 ⟨rfl, h⟩
  go_wp2_with fail
  with_reducible refine (usable_any A n c L z B m d _ hn hm (HR.out.keep h)).mono ?_
  rintro e w2 ⟨rfl, hb⟩
  have h := bel_step h hb
  clear hb
  cases hu : uB n m L z
  · go_wp2_with fail
    go_ret
    exact ⟨rfl, h⟩
  · have hv := uB_iff.1 hu
    obtain ⟨b, o, R, C, rfl, hb, hc, hC, _, _⟩ := (HR.out.keep h) 0 hv.2
    rw [Nat.add_zero] at hc
    have hv2 := hv.2
    go_wp2_with fail
    all_goals first
      | (go_ret; exact ⟨rfl, h⟩)
      | (exfalso; exact HN.out ⟨hu, ⟨by omega, by omega⟩, ⟨by omega, by omega⟩, by omega, by omega, by omega⟩)

set_option maxRecDepth 100000 in
set_option maxHeartbeats 4000000 in
theorem more_yes (A : Option Addr) (n c : Nat) (L : Nat → Nat) (z : Nat → Nat → Int) (B : Option Addr) (d : Nat) (p : Nat → Bool) (D S Q : Nat) (num : Int) (w : World) (hR : RM w A n L z) (hP : RP w B n p) (hu : uB n n L z = true) (hx : 0 ≤ num ∧ num ≤ 1000) (hD : 1 ≤ D ∧ D ≤ n) (hS : S < L 0) :
    Calls Try.prog 7 #[.slice A n c, .slice B n d, .int .i64 (D : Int), .int .i64 (S : Int), .int .i64 (Q : Int), .int .i64 num] w fun e w' => e = .returned (.bool true) ∧ Below w.heap.size w w' := by
  have HR := Lib.hid hR
  have HP := Lib.hid hP
  clear hR hP
  have hv := uB_iff.1 hu
  have hvi := vd_iff.1 hv.1
  have h60 := hvi.1.1
  have hn0 := hv.2
  have hvd := hv.1
  have HL : Hid (∀ i, i < n → 1 ≤ L i ∧ L i ≤ 100) := Lib.hid fun i hi => by have := (hvi.2 i hi).1; omega
  have HL0 : Hid (∀ i, i < n → L i = L 0) := Lib.hid fun i hi => (hvi.2 i hi).1.2.2
  have hL0 := HL.out 0 hn0
  have hkD : Q % D < D := Nat.mod_lt _ (by omega)
  have eq2 : (Q : Int) % (D : Int) = ((Q % D : Nat) : Int) := by omega
  obtain ⟨k, hkq⟩ : ∃ k, Q % D = k := ⟨_, rfl⟩
  rw [hkq] at hkD eq2
  clear hkq
  have hk : k < n := by omega
  have hLk := HL.out k hk
  have hT : S < L k := by rw [HL0.out k hk]; exact hS
  have hzk := (hvi.2 k hk).2 S hT
  have HB1 := Lib.hid (base_res (p := p) hvd hn0 hD.2 hS)
  have HB2 : Hid (vd n n L (upd z k S (z k S + num)) = true → (5 ≤ (ds p D).length → bE n n L (upd z k S (z k S + num)) p D S = 0 ∧ bV n n L (upd z k S (z k S + num)) p D S = bs p (upd z k S (z k S + num)) D S) ∧ ((ds p D).length < 5 → bE n n L (upd z k S (z k S + num)) p D S = 4 ∧ bV n n L (upd z k S (z k S + num)) p D S = 0)) := Lib.hid fun hq => base_res (p := p) hq hn0 hD.2 hS
  have HBM : Hid (5 ≤ (ds p D).length → bs p z D S ≤ bs p (upd z k S (z k S + num)) D S ∧ bs p (upd z k S (z k S + num)) D S ≤ bs p z D S + (num + 4) / 5) := Lib.hid fun h5 => bs_more h5 hx.1
  have HBB : Hid (5 ≤ (ds p D).length → 0 ≤ bs p z D S ∧ bs p z D S ≤ 1000) := Lib.hid fun h5 => bs_bd fun i hi => (dy_ok hvd hD.2 hS h5 i hi).2
  have hD0 : ¬ D = 0 := by omega
  clear hv hvi
  obtain ⟨b0, o0, R0, C0, rfl, _, hc0, hC0, _, _⟩ := HR.out 0 hn0
  rw [Nat.add_zero] at hc0
  go_enter Try.func7, Try.ntmps7
  go_wp2_with fail
  with_reducible refine (head_any _).mono ?_
  rintro e w1 ⟨rfl, h⟩
  go_wp2_with fail
  with_reducible refine (usable_any _ n c L z B n d _ (by omega) (by omega) (HR.out.keep h)).mono ?_
  rintro e w2 ⟨rfl, hb⟩
  have h := bel_step h hb
  clear hb
  rw [hu]
  have hc1 := old_at hc0 h
  have EQ2 := Lib.hid eq2
  clear eq2 hc0
  go_wp2_with fail
  all_goals (try (exfalso; omega))
  rw [EQ2.out]
  with_reducible refine (copy_any _ n c L z _ (by omega) HL.out (HR.out.keep h)).mono ?_
  rintro e w4 ⟨⟨g, cap, G, C, rfl, hcap, hcp⟩, hb4⟩
  have h4 := bel_step h hb4
  obtain ⟨q1, q2, q3, q4, q5⟩ := hcp.at hk hT
  have hws := h.size
  have i1 : (k : Int) < (n : Int) := by omega
  have i2 : (S : Int) < (L k : Int) := by omega
  have HCP := Lib.hid hcp
  clear hcp hc1
  go_wp2_with fail
  have hcp5 := HCP.out.write hk hT (z k S + num)
  have h5 : Below w.heap.size w (w4.setCell ⟨G k, S, none⟩ (.int .i64 (z k S + num))) := h4.setCell (p := ⟨G k, S, none⟩) (by simp; omega) _
  obtain ⟨w5, hw5⟩ : ∃ w5, w4.setCell ⟨G k, S, none⟩ (.int .i64 (z k S + num)) = w5 := ⟨_, rfl⟩
  rw [hw5] at h5 hcp5 ⊢
  have HRM := Lib.hid hcp5.rm
  clear hw5 hcp5 q1 q2 q3 q5 hb4 h4
  with_reducible refine (rvalid _ n cap L (upd z k S (z k S + num)) B n d _ (by omega) (by omega) HRM.out).mono ?_
  rintro e w6 ⟨rfl, k6⟩
  have h6 := bel_step h5 k6
  go_wp2_with fail
  with_reducible refine (baseline_any _ n c L z B n d p D S _ (by omega) (by omega) (HR.out.keep h6) (HP.out.keep h6)).mono ?_
  rintro e w7 ⟨rfl, hb7⟩
  have h7 := bel_step h6 hb7
  have k7 := bel_step k6 hb7
  clear hb7
  go_wp2_with fail
  with_reducible refine (baseline_any _ n cap L (upd z k S (z k S + num)) B n d p D S _ (by omega) (by omega) (HRM.out.keep k7) (HP.out.keep h7)).mono ?_
  rintro e w8 ⟨rfl, hb8⟩
  have h8 := bel_step h7 hb8
  clear hb8 k6 k7
  cases hvv : vd n n L (upd z k S (z k S + num))
  · go_wp2_with fail
    all_goals (try (exfalso; omega))
    go_ret
    exact ⟨rfl, h8⟩
  · have hb2 := HB2.out hvv
    by_cases h55 : 5 ≤ (ds p D).length
    · have r1 := HB1.out.1 h55
      have r2 := hb2.1 h55
      have r3 := HBM.out h55
      have r4 := HBB.out h55
      rw [r1.1, r1.2, r2.1, r2.2]
      generalize bs p z D S = x1 at r3 r4 ⊢
      generalize bs p (upd z k S (z k S + num)) D S = x2 at r3 ⊢
      clear r1 r2 hb2
      have r5 : 0 ≤ (num + 4) / 5 ∧ (num + 4) / 5 ≤ 1000 := by omega
      go_wp2_with fail
      all_goals (try (exfalso; omega))
      go_ret
      exact ⟨rfl, h8⟩
    · have r1 := HB1.out.2 (by omega)
      have r2 := hb2.2 (by omega)
      rw [r1.1, r1.2, r2.1, r2.2]
      clear r1 r2 hb2
      have r5 : 0 ≤ (num + 4) / 5 ∧ (num + 4) / 5 ≤ 1000 := by omega
      go_wp2_with fail
      all_goals (try (exfalso; omega))
      go_ret
      exact ⟨rfl, h8⟩
theorem walk_more (A : Option Addr) (n c : Nat) (L : Nat → Nat) (z : Nat → Nat → Int) (B : Option Addr) (m d : Nat) (p : Nat → Bool) (day slot which num : Int) (w : World) (hn : n ≤ 9223372036854775807) (hm : m ≤ 9223372036854775807) (hR : RM w A n L z) (hP : RP w B m p) :
    Calls Try.prog 7 #[.slice A n c, .slice B m d, .int .i64 day, .int .i64 slot, .int .i64 which, .int .i64 num] w fun e w' => e = .returned (.bool true) ∧ Below w.heap.size w w' := by
  by_cases hy : uB n m L z = true ∧ (1 ≤ day ∧ day ≤ n) ∧ (0 ≤ slot ∧ slot < L 0) ∧ 0 ≤ which ∧ (0 ≤ num ∧ num ≤ 1000)
  · obtain ⟨hu, hd, hs, hw, hx⟩ := hy
    obtain ⟨D, rfl⟩ := Int.eq_ofNat_of_zero_le (show 0 ≤ day by omega)
    obtain ⟨S, rfl⟩ := Int.eq_ofNat_of_zero_le hs.1
    obtain ⟨Q, rfl⟩ := Int.eq_ofNat_of_zero_le hw
    obtain rfl : n = m := (vd_iff.1 (uB_iff.1 hu).1).1.2.symm
    exact more_yes A n c L z B d p D S Q num w hR hP hu hx (by omega) (by omega)
  · exact more_no A n c L z B m d p day slot which num w hn hm hR hP hy
end Go.Proofs.Ytdeeaehdbaoloaa
