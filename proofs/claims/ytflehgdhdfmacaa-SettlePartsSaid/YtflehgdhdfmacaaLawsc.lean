/-
  THE LAW SettleParts, walked.
-/
import Derived.Test.YtflehgdhdfmacaaLawsca
namespace Go.Proofs.Ytflehgdhdfmacaa
open Go.RowKit
set_option linter.unusedVariables false
attribute [local go_sem ↓] Go.wp_at_zero Go.wp_at_succ

theorem RR_none {w : World} {A : Option Addr} {X : Nat → Nat → Int} : RR w A 0 X := fun i hi => by omega
theorem RR_zero {w : World} {A : Option Addr} {n : Nat} {X : Nat → Nat → Int} (h : n = 0) : RR w A n X := fun i hi => by omega

set_option maxRecDepth 100000 in
set_option maxHeartbeats 4000000 in
theorem parts_main (b o k n c m : Nat) (X : Nat → Nat → Int) (u : Int) (w : World) (hn : 1 ≤ n ∧ n ≤ 64) (hkn : k ≤ n) (hc : n ≤ c ∧ c ≤ 9223372036854775807) (hck : ¬ c = k) (hj : u.tmod ((n : Int) + 1) = (k : Int)) (hm : 1 ≤ m ∧ m ≤ 8) (hu : 0 ≤ u) (hX : RR w (some ⟨b, o, none⟩) n X) (hw : ∀ i, i < n → (Lit.int .i64 (X i 0)).wf = true) (hall : allR m X n) (hnd : ¬ dup X n) :
    Calls Try.prog 5 #[.slice (some ⟨b, o, none⟩) n c, .int .i64 (m : Int), .int .i64 u] w fun e w' => e = .returned (.bool true) ∧ Below w.heap.size w w' := by
  have HX := Lib.hid hX
  have HW := Lib.hid hw
  have HALL := Lib.hid hall
  have HND := Lib.hid hnd
  have HLO := Lib.hid (lo_ok (k := k) (by omega) hall hnd)
  have HHI : Hid (allR m (dropR X k) (n - k) ∧ ¬ dup (dropR X k) (n - k)) := Lib.hid (by have h := hi_ok (k := k) hall hnd; (try rw [Nat.sub_self] at h); exact h)
  have HHW : Hid (∀ i, i < (n - k) → (Lit.int .i64 (dropR X k i 0)).wf = true) := Lib.hid (by have h := hi_wf (k := k) hw; (try rw [Nat.sub_self] at h); exact h)
  have HTU := Lib.hid (turn_ok (k := k) (by omega) hall hnd)
  have HTW := Lib.hid (turn_wf (k := k) (by omega) hw)
  have HTR : Hid (recs (dropR X k) (n - k) ++ recs X k = recs (turnR X n k) n) := Lib.hid (by have h := turn_recs (X := X) (n := n) (k := k) (by omega); (try rw [Nat.sub_self] at h); exact h)
  have HTG := Lib.hid (turn_get (X := X) (n := n) (k := k) (by omega))
  clear hX hw hall hnd
  have z4 : decide (u < 0) = false := decide_eq_false (by omega)
  have y1 : IntKind.i64.wrap ((n : Int) + 1) = (n : Int) + 1 := IntWalk.i64_in _ (by omega)
  have y2 : ¬ (n : Int) + 1 = 0 := by omega
  have k1 : (0 : Int) ≤ (k : Int) := by omega
  have k2 : (k : Int) ≤ (c : Int) := by omega
  have k3 : (k : Int) ≤ (n : Int) := by omega

  obtain ⟨r0, hr, hr0, hr1, hr2⟩ := info_parts infoRec
  have HJ := Lib.hid hr
  have HY0 := Lib.hid hr0
  have HY1 := Lib.hid hr1
  have HY2 := Lib.hid hr2
  have hmk : ∀ W : World, (Instr.makeSlice 22 (.int .i64 0) (.int .i64 (n : Int))).run Try.prog W = .ok (.slice (some ⟨W.heap.size, 0, none⟩) 0 n) (W.alloc (.cells (madeCells (rcV fun _ => 0).cells (n * 13)) 40)) := fun W => by
    have := run_make_rowN (P := Try.prog) 22 40 r0 _ Try.underlying22 hr hr0 .i64 .i64 0 n (by omega) (by rw [hr2]; omega) (by omega) W
    rw [hr1] at this
    exact this
  obtain ⟨mc, hmc⟩ : ∃ mc, madeCells (rcV fun _ => 0).cells (n * 13) = mc := ⟨_, rfl⟩
  have HMC : Hid (mc.size = n * 13) := Lib.hid (by rw [← hmc]; simp [madeCells])
  rw [hmc] at hmk
  clear hmc hr hr0 hr1 hr2
  go_enter Try.func5, Try.ntmps5
  go_upto_region 10 with (first
    | (go_at_call 9; with_reducible refine (head_any _).mono ?_; rintro e w0 ⟨rfl, h0⟩)
    | (go_at_call 10; with_reducible refine (net_ok _ n c X m w0 (by omega) (by omega) (HX.out.keep h0) HW.out HALL.out HND.out).mono ?_; rintro e w1 ⟨g1, rfl, hO1, h1⟩
       have H1 := Lib.hid (bel_step h0 h1)
       have O1 := Lib.hid hO1
       clear hO1 h0 h1)
    | (go_at_call 10; with_reducible refine (net_ok _ k _ X m w1 (by omega) (by omega) ((HX.out.keep H1.out).take (by omega)) (fun i hi => HW.out i (by omega)) HLO.out.1 HLO.out.2).mono ?_; rintro e w2 ⟨g2, rfl, hO2, h2⟩
       have H2 := Lib.hid (bel_step H1.out h2)
       have O2 := Lib.hid hO2
       have P1 := Lib.hid (O1.out.below h2)
       clear hO2 h2)
    | (go_at_call 10; with_reducible refine (net_ok _ (n - k) _ (dropR X k) m w2 (by omega) (by omega) (RR.drop (HX.out.keep H2.out)) HHW.out HHI.out.1 HHI.out.2).mono ?_; rintro e w3 ⟨g3, rfl, hO3, h3⟩
       have H3 := Lib.hid (bel_step H2.out h3)
       have O3 := Lib.hid hO3
       have P2 := Lib.hid (O2.out.below h3)
       have Q1 := Lib.hid (P1.out.below h3)
       clear hO3 h3))
  all_goals (try (exfalso; omega))
  clear H1 H2 O1 O2 P1 y1 y2 hj z4
  have HOR := Lib.hid (HX.out.keep H3.out)
  have hs3 := H3.out.size
  have hbe := Below.refl w3.heap.size w3
  go_cut [15, 16] (fun v e wx => ∃ g6, v = .slice (some ⟨g6, 0, none⟩) m m ∧ e = .int .i64 0 ∧ OwnR wx g6 m m (get X n) ∧ Below w3.heap.size w3 wx)
  case first =>
    go_region_held3 (fun _ => True) (trivial)
      (first
        | (refine step_recs _ (by rfl) (.tmp 60) (.tmp 63) 22 (by rfl) w3.heap.size 40 r0 _ 104 Try.underlying22 HJ.out HY0.out HY1.out HY2.out (by rfl) _ 0 [] (by rfl) (own_at0 (heap_alloc_new w3 _) (Nat.le_refl _) (by unfold maxLen; omega) HMC.out) _ (n - k) _ (dropR X k) (by rfl) (by intro e; first | (cases e; done) | (have := hAn e; omega) | omega) (RR.drop (HOR.out.keep (by repeat (first | with_reducible exact hbe | with_reducible apply bel_alloc | with_reducible apply Below.drew | with_reducible apply below_drewN)))) (n - k) (by omega) (by unfold maxLen; omega) (by omega) (by first | omega | (simp <;> omega)) ?_; intro vA wA hown1 hgrow1; rw [List.nil_append] at hown1; have hbe := grow_h (by repeat (first | with_reducible exact hbe | with_reducible apply bel_alloc | with_reducible apply Below.drew | with_reducible apply below_drewN)) hgrow1 (row_ge (Nat.le_refl _)); clear hgrow1)
        | (refine step_recs _ (by rfl) (.tmp 64) (.tmp 67) 22 (by rfl) w3.heap.size 40 r0 _ 104 Try.underlying22 HJ.out HY0.out HY1.out HY2.out (by rfl) vA (n - k) _ (by rfl) (by first | exact hown1 | exact hown1.drew) _ k _ X (by rfl) (by intro e; first | (cases e; done) | (have := hAn e; omega) | omega) ((HOR.out.keep (by repeat (first | with_reducible exact hbe | with_reducible apply bel_alloc | with_reducible apply Below.drew | with_reducible apply below_drewN))).take (by omega)) n (by omega) (by unfold maxLen; omega) (by omega) (by have q := hbe.size; first | omega | (simp <;> omega)) ?_; intro vB wB hown2 hgrow2; rw [HTR.out] at hown2; have hbe := grow_h (by repeat (first | with_reducible exact hbe | with_reducible apply bel_alloc | with_reducible apply Below.drew | with_reducible apply below_drewN)) hgrow2 (own_ge hown1); clear hgrow2 hown1; obtain ⟨AB, cB, hvB, hcB, hnB⟩ := own_form hown2; subst hvB)
        | (go_at_call 10; with_reducible refine (net_ok _ n _ (turnR X n k) m _ (by omega) (by omega) (RR_own (by first | exact hown2 | exact hown2.drew)) HTW.out HTU.out.1 HTU.out.2).mono ?_; rintro e w6 ⟨g6, rfl, hO6, h6⟩; rw [HTG.out] at hO6; have hbe := bel_step (by repeat (first | with_reducible exact hbe | with_reducible apply bel_alloc | with_reducible apply Below.drew | with_reducible apply below_drewN)) h6; clear h6 hown2))
    all_goals ((try go_wp2_with fail); go_meet; exact ⟨g6, rfl, rfl, by first | exact hO6 | exact hO6.below (drewN_below _ _), (by repeat (first | with_reducible exact hbe | with_reducible apply bel_alloc | with_reducible apply Below.drew | with_reducible apply below_drewN))⟩)
  case rest =>
    obtain ⟨g6, rfl, rfl, hO6, hbx⟩ := hcut
    have O6 := Lib.hid hO6
    have HBX := Lib.hid hbx
    have A3 := Lib.hid (O3.out.below hbx)
    have A2 := Lib.hid (P2.out.below hbx)
    have A1 := Lib.hid (Q1.out.below hbx)
    have H4 := Lib.hid (bel_step H3.out hbx)
    clear hO6 hbx hbe O3 P2 Q1 hmk
    go_wp2_with (go_at_call 16; with_reducible refine (ints_yes _ _ _ _ _ (get X n) _ (by omega) A1.out.rz O6.out.rz).mono ?_; rintro e w7 ⟨rfl, h7⟩)
    all_goals (try (exfalso; omega))
    have B1 := Lib.hid (A1.out.below h7)
    have B2 := Lib.hid (A2.out.below h7)
    have B3 := Lib.hid (A3.out.below h7)
    have H7 := Lib.hid (bel_step H4.out h7)
    clear A1 A2 A3 H4 h7 O6 HBX H3
    go_loopw [7, 17] (fun b i wr => ∃ q : Nat, q ≤ m ∧ i = .int .i64 q ∧ b = .bool true ∧ Below w7.heap.size w7 wr) (fun _ i _ => m - (intOf i).toNat)
    case atStart => exact ⟨0, Nat.zero_le _, rfl, rfl, Below.refl _ _⟩
    case round =>
      obtain ⟨q, hq, rfl, rfl, hbw⟩ := hrel
      have HBW := Lib.hid hbw
      clear hbw
      by_cases hlt : q < m
      · have l1 := ((B1.out.below HBW.out).at hlt).1
        have l2 := ((B2.out.below HBW.out).at hlt).1
        have l3 := ((B3.out.below HBW.out).at hlt).1
        have gb1 := get_bd n HALL.out q
        have gb2 := get_bd k HLO.out.1 q
        have gb3 := get_bd (n - k) HHI.out.1 q
        have hsum : get X k q + get (dropR X k) (n - k) q = get X n q := by have h := parts_get (X := X) (n := n) (k := k) (by omega) q; (try rw [Nat.sub_self] at h); exact h
        have e1 : (get X k q + get (dropR X k) (n - k) q == get X n q) = true := by rw [hsum]; simp
        have e2 : IntKind.i64.wrap (get X k q + get (dropR X k) (n - k) q) = get X k q + get (dropR X k) (n - k) q := IntWalk.i64_in _ (by omega)
        have i0 : (0 : Int) ≤ (q : Int) := by omega
        have i1 : (q : Int) < (m : Int) := by omega
        clear hsum
        generalize get (dropR X k) (n - k) q = x3 at *
        generalize hx2 : get X k q = x2 at *
        clear hx2
        generalize get X n q = x1 at *
        go_wp2_with fail
        go_quiet (fail)
        go_wp2_with fail
        go_roundw
        case rel => exact ⟨q + 1, by omega, by go_num, rfl, below_drewN HBW.out _⟩
        case measure => simp [intOf] <;> omega
      · obtain rfl : q = m := by omega
        go_wp2_with fail
        go_ret
        exact ⟨rfl, bel_step H7.out HBW.out⟩

set_option maxRecDepth 100000 in
set_option maxHeartbeats 4000000 in
theorem parts_all (A : Option Addr) (n m : Nat) (X : Nat → Nat → Int) (u : Int) (w : World) (hn : n ≤ 64) (hc : n ≤ n ∧ n ≤ 9223372036854775807) (hAn : A = none → n = 0) (hj : u.tmod ((n : Int) + 1) = (n : Int)) (hm : 1 ≤ m ∧ m ≤ 8) (hu : 0 ≤ u) (hX : RR w (A) n X) (hw : ∀ i, i < n → (Lit.int .i64 (X i 0)).wf = true) (hall : allR m X n) (hnd : ¬ dup X n) :
    Calls Try.prog 5 #[.slice (A) n n, .int .i64 (m : Int), .int .i64 u] w fun e w' => e = .returned (.bool true) ∧ Below w.heap.size w w' := by
  have HX := Lib.hid hX
  have HW := Lib.hid hw
  have HALL := Lib.hid hall
  have HND := Lib.hid hnd
  have HLO := Lib.hid (lo_ok (k := n) (by omega) hall hnd)
  have HHI : Hid (allR m (dropR X n) 0 ∧ ¬ dup (dropR X n) 0) := Lib.hid (by have h := hi_ok (k := n) hall hnd; (try rw [Nat.sub_self] at h); exact h)
  have HHW : Hid (∀ i, i < 0 → (Lit.int .i64 (dropR X n i 0)).wf = true) := Lib.hid (by have h := hi_wf (k := n) hw; (try rw [Nat.sub_self] at h); exact h)
  have HTU := Lib.hid (turn_ok (k := n) (by omega) hall hnd)
  have HTW := Lib.hid (turn_wf (k := n) (by omega) hw)
  have HTR : Hid (recs (dropR X n) 0 ++ recs X n = recs (turnR X n n) n) := Lib.hid (by have h := turn_recs (X := X) (n := n) (k := n) (by omega); (try rw [Nat.sub_self] at h); exact h)
  have HTG := Lib.hid (turn_get (X := X) (n := n) (k := n) (by omega))
  clear hX hw hall hnd
  have z4 : decide (u < 0) = false := decide_eq_false (by omega)
  have y1 : IntKind.i64.wrap ((n : Int) + 1) = (n : Int) + 1 := IntWalk.i64_in _ (by omega)
  have y2 : ¬ (n : Int) + 1 = 0 := by omega
  have k1 : (0 : Int) ≤ (n : Int) := by omega
  have k2 : (n : Int) ≤ (n : Int) := by omega
  have k3 : (n : Int) ≤ (n : Int) := by omega

  obtain ⟨r0, hr, hr0, hr1, hr2⟩ := info_parts infoRec
  have HJ := Lib.hid hr
  have HY0 := Lib.hid hr0
  have HY1 := Lib.hid hr1
  have HY2 := Lib.hid hr2
  have hmk : ∀ W : World, (Instr.makeSlice 22 (.int .i64 0) (.int .i64 (n : Int))).run Try.prog W = .ok (.slice (some ⟨W.heap.size, 0, none⟩) 0 n) (W.alloc (.cells (madeCells (rcV fun _ => 0).cells (n * 13)) 40)) := fun W => by
    have := run_make_rowN (P := Try.prog) 22 40 r0 _ Try.underlying22 hr hr0 .i64 .i64 0 n (by omega) (by rw [hr2]; omega) (by omega) W
    rw [hr1] at this
    exact this
  obtain ⟨mc, hmc⟩ : ∃ mc, madeCells (rcV fun _ => 0).cells (n * 13) = mc := ⟨_, rfl⟩
  have HMC : Hid (mc.size = n * 13) := Lib.hid (by rw [← hmc]; simp [madeCells])
  rw [hmc] at hmk
  clear hmc hr hr0 hr1 hr2
  go_enter Try.func5, Try.ntmps5
  go_upto_region 10 with (first
    | (go_at_call 9; with_reducible refine (head_any _).mono ?_; rintro e w0 ⟨rfl, h0⟩)
    | (go_at_call 10; with_reducible refine (net_ok _ n n X m w0 (by omega) (by omega) (HX.out.keep h0) HW.out HALL.out HND.out).mono ?_; rintro e w1 ⟨g1, rfl, hO1, h1⟩
       have H1 := Lib.hid (bel_step h0 h1)
       have O1 := Lib.hid hO1
       clear hO1 h0 h1)
    | (go_at_call 10; with_reducible refine (net_ok _ n _ X m w1 (by omega) (by omega) ((HX.out.keep H1.out).take (by omega)) (fun i hi => HW.out i (by omega)) HLO.out.1 HLO.out.2).mono ?_; rintro e w2 ⟨g2, rfl, hO2, h2⟩
       have H2 := Lib.hid (bel_step H1.out h2)
       have O2 := Lib.hid hO2
       have P1 := Lib.hid (O1.out.below h2)
       clear hO2 h2)
    | (go_at_call 10; with_reducible refine (net_ok _ 0 _ (dropR X n) m w2 (by omega) (by omega) ((fun _ => RR_zero (by omega)) (HX.out.keep H2.out)) HHW.out HHI.out.1 HHI.out.2).mono ?_; rintro e w3 ⟨g3, rfl, hO3, h3⟩
       have H3 := Lib.hid (bel_step H2.out h3)
       have O3 := Lib.hid hO3
       have P2 := Lib.hid (O2.out.below h3)
       have Q1 := Lib.hid (P1.out.below h3)
       clear hO3 h3))
  all_goals (try (exfalso; omega))
  clear H1 H2 O1 O2 P1 y1 y2 hj z4
  have HOR := Lib.hid (HX.out.keep H3.out)
  have hs3 := H3.out.size
  have hbe := Below.refl w3.heap.size w3
  go_cut [15, 16] (fun v e wx => ∃ g6, v = .slice (some ⟨g6, 0, none⟩) m m ∧ e = .int .i64 0 ∧ OwnR wx g6 m m (get X n) ∧ Below w3.heap.size w3 wx)
  case first =>
    go_region_held3 (fun _ => True) (trivial)
      (first
        | (refine step_recs _ (by rfl) (.tmp 60) (.tmp 63) 22 (by rfl) w3.heap.size 40 r0 _ 104 Try.underlying22 HJ.out HY0.out HY1.out HY2.out (by rfl) _ 0 [] (by rfl) (own_at0 (heap_alloc_new w3 _) (Nat.le_refl _) (by unfold maxLen; omega) HMC.out) _ 0 _ (dropR X n) (by rfl) (by intro e; first | (cases e; done) | (have := hAn e; omega) | omega) ((fun _ => RR_zero (by omega)) (HOR.out.keep (by repeat (first | with_reducible exact hbe | with_reducible apply bel_alloc | with_reducible apply Below.drew | with_reducible apply below_drewN)))) 0 (by omega) (by unfold maxLen; omega) (by omega) (by first | omega | (simp <;> omega)) ?_; intro vA wA hown1 hgrow1; rw [List.nil_append] at hown1; have hbe := grow_h (by repeat (first | with_reducible exact hbe | with_reducible apply bel_alloc | with_reducible apply Below.drew | with_reducible apply below_drewN)) hgrow1 (row_ge (Nat.le_refl _)); clear hgrow1)
        | (refine step_recs _ (by rfl) (.tmp 64) (.tmp 67) 22 (by rfl) w3.heap.size 40 r0 _ 104 Try.underlying22 HJ.out HY0.out HY1.out HY2.out (by rfl) vA 0 _ (by rfl) (by first | exact hown1 | exact hown1.drew) _ n _ X (by rfl) (by intro e; first | (cases e; done) | (have := hAn e; omega) | omega) ((HOR.out.keep (by repeat (first | with_reducible exact hbe | with_reducible apply bel_alloc | with_reducible apply Below.drew | with_reducible apply below_drewN))).take (by omega)) n (by omega) (by unfold maxLen; omega) (by omega) (by have q := hbe.size; first | omega | (simp <;> omega)) ?_; intro vB wB hown2 hgrow2; rw [HTR.out] at hown2; have hbe := grow_h (by repeat (first | with_reducible exact hbe | with_reducible apply bel_alloc | with_reducible apply Below.drew | with_reducible apply below_drewN)) hgrow2 (own_ge hown1); clear hgrow2 hown1; obtain ⟨AB, cB, hvB, hcB, hnB⟩ := own_form hown2; subst hvB)
        | (go_at_call 10; with_reducible refine (net_ok _ n _ (turnR X n n) m _ (by omega) (by omega) (RR_own (by first | exact hown2 | exact hown2.drew)) HTW.out HTU.out.1 HTU.out.2).mono ?_; rintro e w6 ⟨g6, rfl, hO6, h6⟩; rw [HTG.out] at hO6; have hbe := bel_step (by repeat (first | with_reducible exact hbe | with_reducible apply bel_alloc | with_reducible apply Below.drew | with_reducible apply below_drewN)) h6; clear h6 hown2))
    all_goals ((try go_wp2_with fail); go_meet; exact ⟨g6, rfl, rfl, by first | exact hO6 | exact hO6.below (drewN_below _ _), (by repeat (first | with_reducible exact hbe | with_reducible apply bel_alloc | with_reducible apply Below.drew | with_reducible apply below_drewN))⟩)
  case rest =>
    obtain ⟨g6, rfl, rfl, hO6, hbx⟩ := hcut
    have O6 := Lib.hid hO6
    have HBX := Lib.hid hbx
    have A3 := Lib.hid (O3.out.below hbx)
    have A2 := Lib.hid (P2.out.below hbx)
    have A1 := Lib.hid (Q1.out.below hbx)
    have H4 := Lib.hid (bel_step H3.out hbx)
    clear hO6 hbx hbe O3 P2 Q1 hmk
    go_wp2_with (go_at_call 16; with_reducible refine (ints_yes _ _ _ _ _ (get X n) _ (by omega) A1.out.rz O6.out.rz).mono ?_; rintro e w7 ⟨rfl, h7⟩)
    all_goals (try (exfalso; omega))
    have B1 := Lib.hid (A1.out.below h7)
    have B2 := Lib.hid (A2.out.below h7)
    have B3 := Lib.hid (A3.out.below h7)
    have H7 := Lib.hid (bel_step H4.out h7)
    clear A1 A2 A3 H4 h7 O6 HBX H3
    go_loopw [7, 17] (fun b i wr => ∃ q : Nat, q ≤ m ∧ i = .int .i64 q ∧ b = .bool true ∧ Below w7.heap.size w7 wr) (fun _ i _ => m - (intOf i).toNat)
    case atStart => exact ⟨0, Nat.zero_le _, rfl, rfl, Below.refl _ _⟩
    case round =>
      obtain ⟨q, hq, rfl, rfl, hbw⟩ := hrel
      have HBW := Lib.hid hbw
      clear hbw
      by_cases hlt : q < m
      · have l1 := ((B1.out.below HBW.out).at hlt).1
        have l2 := ((B2.out.below HBW.out).at hlt).1
        have l3 := ((B3.out.below HBW.out).at hlt).1
        have gb1 := get_bd n HALL.out q
        have gb2 := get_bd n HLO.out.1 q
        have gb3 := get_bd 0 HHI.out.1 q
        have hsum : get X n q + get (dropR X n) 0 q = get X n q := by have h := parts_get (X := X) (n := n) (k := n) (by omega) q; (try rw [Nat.sub_self] at h); exact h
        have e1 : (get X n q + get (dropR X n) 0 q == get X n q) = true := by rw [hsum]; simp
        have e2 : IntKind.i64.wrap (get X n q + get (dropR X n) 0 q) = get X n q + get (dropR X n) 0 q := IntWalk.i64_in _ (by omega)
        have i0 : (0 : Int) ≤ (q : Int) := by omega
        have i1 : (q : Int) < (m : Int) := by omega
        clear hsum
        generalize get (dropR X n) 0 q = x3 at *
        generalize hx2 : get X n q = x2 at *
        clear hx2
        generalize get X n q = x1 at *
        go_wp2_with fail
        go_quiet (fail)
        go_wp2_with fail
        go_roundw
        case rel => exact ⟨q + 1, by omega, by go_num, rfl, below_drewN HBW.out _⟩
        case measure => simp [intOf] <;> omega
      · obtain rfl : q = m := by omega
        go_wp2_with fail
        go_ret
        exact ⟨rfl, bel_step H7.out HBW.out⟩

set_option maxRecDepth 100000 in
set_option maxHeartbeats 4000000 in
theorem parts_none (ad : Addr) (k n c m : Nat) (X : Nat → Nat → Int) (u : Int) (w : World) (hn : n ≤ 0) (hkn : k ≤ n) (hc : n ≤ c ∧ c ≤ 9223372036854775807) (hck : ¬ c = k) (hj : u.tmod ((n : Int) + 1) = (k : Int)) (hm : 1 ≤ m ∧ m ≤ 8) (hu : 0 ≤ u) (hX : RR w (some ad) n X) (hw : ∀ i, i < n → (Lit.int .i64 (X i 0)).wf = true) (hall : allR m X n) (hnd : ¬ dup X n) :
    Calls Try.prog 5 #[.slice (some ad) n c, .int .i64 (m : Int), .int .i64 u] w fun e w' => e = .returned (.bool true) ∧ Below w.heap.size w w' := by
  have HX := Lib.hid hX
  have HW := Lib.hid hw
  have HALL := Lib.hid hall
  have HND := Lib.hid hnd
  have HLO := Lib.hid (lo_ok (k := k) (by omega) hall hnd)
  have HHI : Hid (allR m (dropR X k) (n - k) ∧ ¬ dup (dropR X k) (n - k)) := Lib.hid (by have h := hi_ok (k := k) hall hnd; (try rw [Nat.sub_self] at h); exact h)
  have HHW : Hid (∀ i, i < (n - k) → (Lit.int .i64 (dropR X k i 0)).wf = true) := Lib.hid (by have h := hi_wf (k := k) hw; (try rw [Nat.sub_self] at h); exact h)
  have HTU := Lib.hid (turn_ok (k := k) (by omega) hall hnd)
  have HTW := Lib.hid (turn_wf (k := k) (by omega) hw)
  have HTR : Hid (recs (dropR X k) (n - k) ++ recs X k = recs (turnR X n k) n) := Lib.hid (by have h := turn_recs (X := X) (n := n) (k := k) (by omega); (try rw [Nat.sub_self] at h); exact h)
  have HTG := Lib.hid (turn_get (X := X) (n := n) (k := k) (by omega))
  clear hX hw hall hnd
  have z4 : decide (u < 0) = false := decide_eq_false (by omega)
  have y1 : IntKind.i64.wrap ((n : Int) + 1) = (n : Int) + 1 := IntWalk.i64_in _ (by omega)
  have y2 : ¬ (n : Int) + 1 = 0 := by omega
  have k1 : (0 : Int) ≤ (k : Int) := by omega
  have k2 : (k : Int) ≤ (c : Int) := by omega
  have k3 : (k : Int) ≤ (n : Int) := by omega

  obtain ⟨r0, hr, hr0, hr1, hr2⟩ := info_parts infoRec
  have HJ := Lib.hid hr
  have HY0 := Lib.hid hr0
  have HY1 := Lib.hid hr1
  have HY2 := Lib.hid hr2
  have hmk : ∀ W : World, (Instr.makeSlice 22 (.int .i64 0) (.int .i64 (n : Int))).run Try.prog W = .ok (.slice (some ⟨W.heap.size, 0, none⟩) 0 n) (W.alloc (.cells (madeCells (rcV fun _ => 0).cells (n * 13)) 40)) := fun W => by
    have := run_make_rowN (P := Try.prog) 22 40 r0 _ Try.underlying22 hr hr0 .i64 .i64 0 n (by omega) (by rw [hr2]; omega) (by omega) W
    rw [hr1] at this
    exact this
  obtain ⟨mc, hmc⟩ : ∃ mc, madeCells (rcV fun _ => 0).cells (n * 13) = mc := ⟨_, rfl⟩
  have HMC : Hid (mc.size = n * 13) := Lib.hid (by rw [← hmc]; simp [madeCells])
  rw [hmc] at hmk
  clear hmc hr hr0 hr1 hr2
  go_enter Try.func5, Try.ntmps5
  go_upto_region 10 with (first
    | (go_at_call 9; with_reducible refine (head_any _).mono ?_; rintro e w0 ⟨rfl, h0⟩)
    | (go_at_call 10; with_reducible refine (net_ok _ n c X m w0 (by omega) (by omega) (HX.out.keep h0) HW.out HALL.out HND.out).mono ?_; rintro e w1 ⟨g1, rfl, hO1, h1⟩
       have H1 := Lib.hid (bel_step h0 h1)
       have O1 := Lib.hid hO1
       clear hO1 h0 h1)
    | (go_at_call 10; with_reducible refine (net_ok _ k _ X m w1 (by omega) (by omega) ((HX.out.keep H1.out).take (by omega)) (fun i hi => HW.out i (by omega)) HLO.out.1 HLO.out.2).mono ?_; rintro e w2 ⟨g2, rfl, hO2, h2⟩
       have H2 := Lib.hid (bel_step H1.out h2)
       have O2 := Lib.hid hO2
       have P1 := Lib.hid (O1.out.below h2)
       clear hO2 h2)
    | (go_at_call 10; with_reducible refine (net_ok _ (n - k) _ (dropR X k) m w2 (by omega) (by omega) ((fun _ => RR_zero (by omega)) (HX.out.keep H2.out)) HHW.out HHI.out.1 HHI.out.2).mono ?_; rintro e w3 ⟨g3, rfl, hO3, h3⟩
       have H3 := Lib.hid (bel_step H2.out h3)
       have O3 := Lib.hid hO3
       have P2 := Lib.hid (O2.out.below h3)
       have Q1 := Lib.hid (P1.out.below h3)
       clear hO3 h3))
  all_goals (try (exfalso; omega))
  clear H1 H2 O1 O2 P1 y1 y2 hj z4
  have HOR := Lib.hid (HX.out.keep H3.out)
  have hs3 := H3.out.size
  have hbe := Below.refl w3.heap.size w3
  go_cut [15, 16] (fun v e wx => ∃ g6, v = .slice (some ⟨g6, 0, none⟩) m m ∧ e = .int .i64 0 ∧ OwnR wx g6 m m (get X n) ∧ Below w3.heap.size w3 wx)
  case first =>
    go_region_held3 (fun _ => True) (trivial)
      (first
        | (refine step_recs _ (by rfl) (.tmp 60) (.tmp 63) 22 (by rfl) w3.heap.size 40 r0 _ 104 Try.underlying22 HJ.out HY0.out HY1.out HY2.out (by rfl) _ 0 [] (by rfl) (own_at0 (heap_alloc_new w3 _) (Nat.le_refl _) (by unfold maxLen; omega) HMC.out) _ (n - k) _ (dropR X k) (by rfl) (by intro e; first | (cases e; done) | (have := hAn e; omega) | omega) ((fun _ => RR_zero (by omega)) (HOR.out.keep (by repeat (first | with_reducible exact hbe | with_reducible apply bel_alloc | with_reducible apply Below.drew | with_reducible apply below_drewN)))) (n - k) (by omega) (by unfold maxLen; omega) (by omega) (by first | omega | (simp <;> omega)) ?_; intro vA wA hown1 hgrow1; rw [List.nil_append] at hown1; have hbe := grow_h (by repeat (first | with_reducible exact hbe | with_reducible apply bel_alloc | with_reducible apply Below.drew | with_reducible apply below_drewN)) hgrow1 (row_ge (Nat.le_refl _)); clear hgrow1)
        | (refine step_recs _ (by rfl) (.tmp 64) (.tmp 67) 22 (by rfl) w3.heap.size 40 r0 _ 104 Try.underlying22 HJ.out HY0.out HY1.out HY2.out (by rfl) vA (n - k) _ (by rfl) (by first | exact hown1 | exact hown1.drew) _ k _ X (by rfl) (by intro e; first | (cases e; done) | (have := hAn e; omega) | omega) ((HOR.out.keep (by repeat (first | with_reducible exact hbe | with_reducible apply bel_alloc | with_reducible apply Below.drew | with_reducible apply below_drewN))).take (by omega)) n (by omega) (by unfold maxLen; omega) (by omega) (by have q := hbe.size; first | omega | (simp <;> omega)) ?_; intro vB wB hown2 hgrow2; rw [HTR.out] at hown2; have hbe := grow_h (by repeat (first | with_reducible exact hbe | with_reducible apply bel_alloc | with_reducible apply Below.drew | with_reducible apply below_drewN)) hgrow2 (own_ge hown1); clear hgrow2 hown1; obtain ⟨AB, cB, hvB, hcB, hnB⟩ := own_form hown2; subst hvB)
        | (go_at_call 10; with_reducible refine (net_ok _ n _ (turnR X n k) m _ (by omega) (by omega) (RR_own (by first | exact hown2 | exact hown2.drew)) HTW.out HTU.out.1 HTU.out.2).mono ?_; rintro e w6 ⟨g6, rfl, hO6, h6⟩; rw [HTG.out] at hO6; have hbe := bel_step (by repeat (first | with_reducible exact hbe | with_reducible apply bel_alloc | with_reducible apply Below.drew | with_reducible apply below_drewN)) h6; clear h6 hown2))
    all_goals ((try go_wp2_with fail); go_meet; exact ⟨g6, rfl, rfl, by first | exact hO6 | exact hO6.below (drewN_below _ _), (by repeat (first | with_reducible exact hbe | with_reducible apply bel_alloc | with_reducible apply Below.drew | with_reducible apply below_drewN))⟩)
  case rest =>
    obtain ⟨g6, rfl, rfl, hO6, hbx⟩ := hcut
    have O6 := Lib.hid hO6
    have HBX := Lib.hid hbx
    have A3 := Lib.hid (O3.out.below hbx)
    have A2 := Lib.hid (P2.out.below hbx)
    have A1 := Lib.hid (Q1.out.below hbx)
    have H4 := Lib.hid (bel_step H3.out hbx)
    clear hO6 hbx hbe O3 P2 Q1 hmk
    go_wp2_with (go_at_call 16; with_reducible refine (ints_yes _ _ _ _ _ (get X n) _ (by omega) A1.out.rz O6.out.rz).mono ?_; rintro e w7 ⟨rfl, h7⟩)
    all_goals (try (exfalso; omega))
    have B1 := Lib.hid (A1.out.below h7)
    have B2 := Lib.hid (A2.out.below h7)
    have B3 := Lib.hid (A3.out.below h7)
    have H7 := Lib.hid (bel_step H4.out h7)
    clear A1 A2 A3 H4 h7 O6 HBX H3
    go_loopw [7, 17] (fun b i wr => ∃ q : Nat, q ≤ m ∧ i = .int .i64 q ∧ b = .bool true ∧ Below w7.heap.size w7 wr) (fun _ i _ => m - (intOf i).toNat)
    case atStart => exact ⟨0, Nat.zero_le _, rfl, rfl, Below.refl _ _⟩
    case round =>
      obtain ⟨q, hq, rfl, rfl, hbw⟩ := hrel
      have HBW := Lib.hid hbw
      clear hbw
      by_cases hlt : q < m
      · have l1 := ((B1.out.below HBW.out).at hlt).1
        have l2 := ((B2.out.below HBW.out).at hlt).1
        have l3 := ((B3.out.below HBW.out).at hlt).1
        have gb1 := get_bd n HALL.out q
        have gb2 := get_bd k HLO.out.1 q
        have gb3 := get_bd (n - k) HHI.out.1 q
        have hsum : get X k q + get (dropR X k) (n - k) q = get X n q := by have h := parts_get (X := X) (n := n) (k := k) (by omega) q; (try rw [Nat.sub_self] at h); exact h
        have e1 : (get X k q + get (dropR X k) (n - k) q == get X n q) = true := by rw [hsum]; simp
        have e2 : IntKind.i64.wrap (get X k q + get (dropR X k) (n - k) q) = get X k q + get (dropR X k) (n - k) q := IntWalk.i64_in _ (by omega)
        have i0 : (0 : Int) ≤ (q : Int) := by omega
        have i1 : (q : Int) < (m : Int) := by omega
        clear hsum
        generalize get (dropR X k) (n - k) q = x3 at *
        generalize hx2 : get X k q = x2 at *
        clear hx2
        generalize get X n q = x1 at *
        go_wp2_with fail
        go_quiet (fail)
        go_wp2_with fail
        go_roundw
        case rel => exact ⟨q + 1, by omega, by go_num, rfl, below_drewN HBW.out _⟩
        case measure => simp [intOf] <;> omega
      · obtain rfl : q = m := by omega
        go_wp2_with fail
        go_ret
        exact ⟨rfl, bel_step H7.out HBW.out⟩

set_option maxRecDepth 100000 in
set_option maxHeartbeats 4000000 in
theorem walk_parts (A : Option Addr) (n c : Nat) (X : Nat → Nat → Int) (m u : Int) (w : World) (hc : n ≤ c ∧ c ≤ 9223372036854775807) (hAn : A = none → c = 0) (hX : RR w A n X) (hw : ∀ i, i < n → (Lit.int .i64 (X i 0)).wf = true) :
    Calls Try.prog 5 #[.slice A n c, .int .i64 m, .int .i64 u] w fun e w' => e = .returned (.bool true) ∧ Below w.heap.size w w' := by
  by_cases h2 : 64 < n
  · clear hX hw hAn
    go_enter Try.func5, Try.ntmps5
    go_wp2_with (go_at_call 9; with_reducible refine (head_any _).mono ?_; rintro e w0 ⟨rfl, h0⟩)
    all_goals (try (exfalso; omega))
    go_ret
    exact ⟨rfl, h0⟩
  · by_cases h3 : u < 0
    · have z4 : decide (u < 0) = true := decide_eq_true h3
      clear hX hw hAn
      go_enter Try.func5, Try.ntmps5
      go_wp2_with (go_at_call 9; with_reducible refine (head_any _).mono ?_; rintro e w0 ⟨rfl, h0⟩)
      all_goals (try (exfalso; omega))
      go_ret
      exact ⟨rfl, h0⟩
    · by_cases hok : OkN X n m
      · obtain ⟨hm, hall, hnd⟩ := hok
        obtain ⟨mm, rfl⟩ : ∃ mm : Nat, m = mm := ⟨m.toNat, by omega⟩
        have t1 : u.tmod ((n : Int) + 1) = u % ((n : Int) + 1) := Int.tmod_eq_emod_of_nonneg (by omega)
        have t2 : 0 ≤ u % ((n : Int) + 1) := Int.emod_nonneg _ (by omega)
        have t3 : u % ((n : Int) + 1) < (n : Int) + 1 := Int.emod_lt_of_pos _ (by omega)
        obtain ⟨k, hk⟩ : ∃ k : Nat, u % ((n : Int) + 1) = (k : Int) := ⟨(u % ((n : Int) + 1)).toNat, by omega⟩
        by_cases hck : c = k
        · obtain rfl : c = n := by omega
          subst hck
          exact parts_all A c mm X u w (by omega) hc hAn (by omega) (by omega) (by omega) hX hw hall hnd
        · cases A with
          | none => exact absurd (hAn rfl) (by omega)
          | some ad =>
            rcases Nat.eq_zero_or_pos n with hz | hz
            · exact parts_none ad k n c mm X u w (by omega) (by omega) hc hck (by omega) (by omega) (by omega) hX hw hall hnd
            · obtain ⟨b, o, e, _⟩ := hX 0 hz
              cases e
              exact parts_main b o k n c mm X u w (by omega) (by omega) hc hck (by omega) (by omega) (by omega) hX hw hall hnd
      · have HBAD := Lib.hid hok
        have HX := Lib.hid hX
        have HW := Lib.hid hw
        have z4 : decide (u < 0) = false := decide_eq_false h3
        clear hok hX hw hAn
        go_enter Try.func5, Try.ntmps5
        go_upto_region 5 with (first
          | (go_at_call 9; with_reducible refine (head_any _).mono ?_; rintro e w0 ⟨rfl, h0⟩)
          | (go_at_call 10; with_reducible refine (net_bad _ _ _ X m _ (by omega) (HX.out.keep h0) HW.out HBAD.out).mono ?_; rintro e w1 ⟨er, rfl, her, h1⟩))
        all_goals (try (exfalso; omega))
        have H1 := Lib.hid (bel_step h0 h1)
        rcases her with rfl | rfl
        all_goals
          go_wp2_with fail
          go_ret
          exact ⟨rfl, H1.out⟩
end Go.Proofs.Ytflehgdhdfmacaa
