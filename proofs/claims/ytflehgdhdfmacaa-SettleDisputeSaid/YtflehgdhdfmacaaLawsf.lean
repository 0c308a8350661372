/-
  THE LAW SettleDispute, its other cases; the law.
-/
import Derived.Test.YtflehgdhdfmacaaLawsfa
namespace Go.Proofs.Ytflehgdhdfmacaa
open Go.RowKit
set_option linter.unusedVariables false
attribute [local go_sem ↓] Go.wp_at_zero Go.wp_at_succ

set_option maxRecDepth 100000 in
set_option maxHeartbeats 4000000 in
theorem dispute_b (A : Option Addr) (n m c : Nat) (X : Nat → Nat → Int) (B : Option Addr) (d : Nat) (Y : Nat → Nat → Int) (w : World) (hc : n ≤ c ∧ c ≤ 9223372036854775807) (hd : m ≤ d ∧ d ≤ 9223372036854775807) (hAn : A = none → c = 0) (hBn : B = none → d = 0) (hn : n ≤ 64) (hm : m ≤ 64) (hX : RG w A n X) (hY : RG w B m Y) (ha : ∀ j, j < n → eq5 (X j) (Y j) = true) (hq2 : n < m) :
    Calls Try.prog 8 #[.slice A n c, .slice B m d] w fun e w' => e = .returned (.bool true) ∧ Below w.heap.size w w' := by
  have HX := Lib.hid hX
  have HY := Lib.hid hY
  have HA := Lib.hid ha
  have HA2 : Hid (∀ j, j < n → eq5 (Y j) (X j) = true) := Lib.hid fun j hj => by rw [eq5_comm]; exact ha j hj
  clear hX hY ha
  have e64 : decide ((64 : Int) < (m : Int)) = false := decide_eq_false (by omega)
  have q0 : decide ((n : Int) < 0) = false := decide_eq_false (by omega)
  have q2 : decide ((m : Int) < (n : Int)) = false := decide_eq_false (by omega)
  have q3 : ((n : Int) == (n : Int)) = true := by simp
  have q4 : ((n : Int) == (m : Int)) = false := by simp; omega
  go_enter Try.func8, Try.ntmps8
  go_wp2_with (first
    | (go_at_call 9; with_reducible refine (head_any _).mono ?_; rintro e w0 ⟨rfl, h0⟩)
    | (go_at_call 14; with_reducible refine (disp_cut A B n m c d X Y n w0 hn hm (HX.out.keep h0) (HY.out.keep h0) HA.out (by exact .inr (.inl ⟨rfl, hq2⟩))).mono ?_; rintro e w1 ⟨rfl, h1⟩
       have H1 := Lib.hid (bel_step h0 h1))
    | (go_at_call 14; with_reducible refine (disp_cut B A m n d c Y X n w1 hm hn (HY.out.keep H1.out) (HX.out.keep H1.out) HA2.out (by exact .inr (.inr ⟨rfl, hq2⟩))).mono ?_; rintro e w2 ⟨rfl, h2⟩
       have H2 := Lib.hid (bel_step H1.out h2)))
  all_goals (try (exfalso; omega))
  clear h0 h1 h2 H1
  go_loopw [5, 13] (fun u i wr => ∃ k : Nat, k ≤ n ∧ i = .int .i64 k ∧ u = .bool true ∧ Below w.heap.size w wr) (fun _ i _ => n - (intOf i).toNat)
  case atStart => exact ⟨0, Nat.zero_le _, rfl, rfl, H2.out⟩
  case round =>
    obtain ⟨k, hk, rfl, rfl, hbw⟩ := hrel
    have HBW := Lib.hid hbw
    clear hbw H2
    by_cases hlt : k < n
    · obtain ⟨b, o, rfl, hb, a0, a1, a2, a3, a4⟩ := (HX.out.keep HBW.out) k (by omega)
      obtain ⟨b', o', rfl, hb', b0, b1, b2, b3, b4⟩ := (HY.out.keep HBW.out) k (by omega)
      obtain ⟨h0, h1, h2, h3, h4⟩ := eq5_iff.1 (HA.out k hlt)
      have i0 : (0 : Int) ≤ (k : Int) := by omega
      have i1 : (k : Int) < (n : Int) := by omega
      have i2 : (k : Int) < (m : Int) := by omega
      have j1 : decide ((k : Int) < (n : Int)) = true := decide_eq_true (by omega)
      go_wp2_with fail
      go_quiet (fail)
      go_wp2_with fail
      go_roundw
      case rel => exact ⟨k + 1, by omega, by go_num, rfl, below_drewN HBW.out _⟩
      case measure => simp [intOf] <;> omega
    · obtain rfl : k = n := by omega
      clear q0 q2 e64
      go_upto_region 20 with (fail)
      go_cut [14, 15, 16] (fun t1 t2 t3 wx => t1 = .int .i64 (k : Int) ∧ t2 = .bool true ∧ t3 = .int .i64 0 ∧ Below w.heap.size w wx)
      case first =>
        have t1 : ((k : Int) + 1).toNat = k + 1 := by omega
        have t2 : IntKind.i64.wrap ((k : Int) + 1) = (k : Int) + 1 := IntWalk.i64_in _ (by omega)
        have t3 : ¬ (k : Int) + 1 < (k : Int) := by omega
        have l1 : (0 : Int) ≤ (k : Int) + 1 := by omega
        have l0 : (0 : Int) ≤ (k : Int) := by omega
        obtain ⟨b', o', rfl, hb', b0, b1, b2, b3, b4⟩ := HY.out k hq2
        clear b0 b1 b2 b3 b4
        have l2 : (k : Int) ≤ (c : Int) := by omega
        have l3 : (k : Int) + 1 ≤ (d : Int) := by omega
        have l5 : (m : Int) ≤ (d : Int) := by omega
        by_cases hk2 : (k : Int) + 1 < (m : Int)
        all_goals
          go_region_held3 (fun _ => True) (trivial) (first
            | (go_at_call 14; with_reducible refine (disp_cut _ _ _ _ _ _ X Y k _ (by omega) (by omega) ((HX.out.take (by omega)).keep (by repeat (first | exact HBW.out | apply below_drewN | apply Below.drew))) ((HY.out.take (by omega)).keep (by repeat (first | exact HBW.out | apply below_drewN | apply Below.drew))) HA.out (by first | exact .inl ⟨by omega, by omega, HNE.out⟩ | exact .inr (.inl ⟨by omega, by omega⟩) | exact .inr (.inr ⟨by omega, by omega⟩))).mono ?_; rintro e w3 ⟨rfl, h3⟩))
          all_goals ((try go_wp2_with fail); go_meet; exact ⟨rfl, rfl, rfl, by repeat (first | exact bel_step (by repeat (first | exact HBW.out | apply below_drewN | apply Below.drew)) h3 | apply below_drewN | apply Below.drew)⟩)
      case rest =>
        obtain ⟨rfl, rfl, rfl, hwc⟩ := hcut
        have HWC := Lib.hid hwc
        clear hwc HBW
        go_wp2_with fail
        go_quiet (fail)
        go_wp2_with fail
        go_ret
        exact ⟨rfl, below_drewN HWC.out _⟩

set_option maxRecDepth 100000 in
set_option maxHeartbeats 4000000 in
theorem dispute_c (A : Option Addr) (n m c : Nat) (X : Nat → Nat → Int) (B : Option Addr) (d : Nat) (Y : Nat → Nat → Int) (w : World) (hc : n ≤ c ∧ c ≤ 9223372036854775807) (hd : m ≤ d ∧ d ≤ 9223372036854775807) (hAn : A = none → c = 0) (hBn : B = none → d = 0) (hn : n ≤ 64) (hm : m ≤ 64) (hX : RG w A n X) (hY : RG w B m Y) (ha : ∀ j, j < m → eq5 (X j) (Y j) = true) (hq1 : m < n) :
    Calls Try.prog 8 #[.slice A n c, .slice B m d] w fun e w' => e = .returned (.bool true) ∧ Below w.heap.size w w' := by
  have HX := Lib.hid hX
  have HY := Lib.hid hY
  have HA := Lib.hid ha
  have HA2 : Hid (∀ j, j < m → eq5 (Y j) (X j) = true) := Lib.hid fun j hj => by rw [eq5_comm]; exact ha j hj
  clear hX hY ha
  have e64 : decide ((64 : Int) < (m : Int)) = false := decide_eq_false (by omega)
  have q0 : decide ((m : Int) < 0) = false := decide_eq_false (by omega)
  have q2 : decide ((m : Int) < (m : Int)) = false := decide_eq_false (by omega)
  have q3 : ((m : Int) == (n : Int)) = false := by simp; omega
  have q4 : ((m : Int) == (m : Int)) = true := by simp
  go_enter Try.func8, Try.ntmps8
  go_wp2_with (first
    | (go_at_call 9; with_reducible refine (head_any _).mono ?_; rintro e w0 ⟨rfl, h0⟩)
    | (go_at_call 14; with_reducible refine (disp_cut A B n m c d X Y m w0 hn hm (HX.out.keep h0) (HY.out.keep h0) HA.out (by exact .inr (.inr ⟨rfl, hq1⟩))).mono ?_; rintro e w1 ⟨rfl, h1⟩
       have H1 := Lib.hid (bel_step h0 h1))
    | (go_at_call 14; with_reducible refine (disp_cut B A m n d c Y X m w1 hm hn (HY.out.keep H1.out) (HX.out.keep H1.out) HA2.out (by exact .inr (.inl ⟨rfl, hq1⟩))).mono ?_; rintro e w2 ⟨rfl, h2⟩
       have H2 := Lib.hid (bel_step H1.out h2)))
  all_goals (try (exfalso; omega))
  clear h0 h1 h2 H1
  go_loopw [5, 13] (fun u i wr => ∃ k : Nat, k ≤ m ∧ i = .int .i64 k ∧ u = .bool true ∧ Below w.heap.size w wr) (fun _ i _ => m - (intOf i).toNat)
  case atStart => exact ⟨0, Nat.zero_le _, rfl, rfl, H2.out⟩
  case round =>
    obtain ⟨k, hk, rfl, rfl, hbw⟩ := hrel
    have HBW := Lib.hid hbw
    clear hbw H2
    by_cases hlt : k < m
    · obtain ⟨b, o, rfl, hb, a0, a1, a2, a3, a4⟩ := (HX.out.keep HBW.out) k (by omega)
      obtain ⟨b', o', rfl, hb', b0, b1, b2, b3, b4⟩ := (HY.out.keep HBW.out) k (by omega)
      obtain ⟨h0, h1, h2, h3, h4⟩ := eq5_iff.1 (HA.out k hlt)
      have i0 : (0 : Int) ≤ (k : Int) := by omega
      have i1 : (k : Int) < (n : Int) := by omega
      have i2 : (k : Int) < (m : Int) := by omega
      have j1 : decide ((k : Int) < (m : Int)) = true := decide_eq_true (by omega)
      go_wp2_with fail
      go_quiet (fail)
      go_wp2_with fail
      go_roundw
      case rel => exact ⟨k + 1, by omega, by go_num, rfl, below_drewN HBW.out _⟩
      case measure => simp [intOf] <;> omega
    · obtain rfl : k = m := by omega
      clear q0 q2 e64
      go_upto_region 20 with (fail)
      go_cut [14, 15, 16] (fun t1 t2 t3 wx => t1 = .int .i64 (k : Int) ∧ t2 = .bool true ∧ t3 = .int .i64 0 ∧ Below w.heap.size w wx)
      case first =>
        have t1 : ((k : Int) + 1).toNat = k + 1 := by omega
        have t2 : IntKind.i64.wrap ((k : Int) + 1) = (k : Int) + 1 := IntWalk.i64_in _ (by omega)
        have t3 : ¬ (k : Int) + 1 < (k : Int) := by omega
        have l1 : (0 : Int) ≤ (k : Int) + 1 := by omega
        have l0 : (0 : Int) ≤ (k : Int) := by omega
        obtain ⟨b, o, rfl, hb, a0, a1, a2, a3, a4⟩ := HX.out k hq1
        clear a0 a1 a2 a3 a4
        have l2 : (k : Int) + 1 ≤ (c : Int) := by omega
        have l3 : (k : Int) ≤ (d : Int) := by omega
        have l5 : (n : Int) ≤ (c : Int) := by omega
        by_cases hk1 : (k : Int) + 1 < (n : Int)
        all_goals
          go_region_held3 (fun _ => True) (trivial) (first
            | (go_at_call 14; with_reducible refine (disp_cut _ _ _ _ _ _ X Y k _ (by omega) (by omega) ((HX.out.take (by omega)).keep (by repeat (first | exact HBW.out | apply below_drewN | apply Below.drew))) ((HY.out.take (by omega)).keep (by repeat (first | exact HBW.out | apply below_drewN | apply Below.drew))) HA.out (by first | exact .inl ⟨by omega, by omega, HNE.out⟩ | exact .inr (.inl ⟨by omega, by omega⟩) | exact .inr (.inr ⟨by omega, by omega⟩))).mono ?_; rintro e w3 ⟨rfl, h3⟩))
          all_goals ((try go_wp2_with fail); go_meet; exact ⟨rfl, rfl, rfl, by repeat (first | exact bel_step (by repeat (first | exact HBW.out | apply below_drewN | apply Below.drew)) h3 | apply below_drewN | apply Below.drew)⟩)
      case rest =>
        obtain ⟨rfl, rfl, rfl, hwc⟩ := hcut
        have HWC := Lib.hid hwc
        clear hwc HBW
        go_wp2_with fail
        go_quiet (fail)
        go_wp2_with fail
        go_ret
        exact ⟨rfl, below_drewN HWC.out _⟩


set_option maxRecDepth 100000 in
set_option maxHeartbeats 4000000 in
theorem walk_dispute (A : Option Addr) (n c : Nat) (X : Nat → Nat → Int) (B : Option Addr) (m d : Nat) (Y : Nat → Nat → Int) (w : World) (hc : n ≤ c ∧ c ≤ 9223372036854775807) (hd : m ≤ d ∧ d ≤ 9223372036854775807) (hAn : A = none → c = 0) (hBn : B = none → d = 0) (hX : RG w A n X) (hY : RG w B m Y) :
    Calls Try.prog 8 #[.slice A n c, .slice B m d] w fun e w' => e = .returned (.bool true) ∧ Below w.heap.size w w' := by
  by_cases hn : n ≤ 64
  · by_cases hm : m ≤ 64
    · rcases disp_cases X Y n m with ⟨rfl, ha⟩ | ⟨q, _, _, ha, ⟨h1, h2, h3⟩ | ⟨rfl, h2⟩ | ⟨rfl, h1⟩⟩
      · exact dispute_no A n c X B d Y w hn hX hY ha
      · exact dispute_a A n m q c X B d Y w hc hd hAn hBn hn hm hX hY ha h1 h2 h3
      · exact dispute_b A q m c X B d Y w hc hd hAn hBn hn hm hX hY ha h2
      · exact dispute_c A n q c X B d Y w hc hd hAn hBn hn hm hX hY ha h1
    · have e64 : decide ((64 : Int) < (m : Int)) = true := decide_eq_true (by omega)
      clear hX hY hAn hBn
      go_enter Try.func8, Try.ntmps8
      go_wp2_with (go_at_call 9; with_reducible refine (head_any _).mono ?_; rintro e w0 ⟨rfl, h0⟩)
      all_goals (try (exfalso; omega))
      go_ret
      exact ⟨rfl, h0⟩
  · clear hX hY hAn hBn
    go_enter Try.func8, Try.ntmps8
    go_wp2_with (go_at_call 9; with_reducible refine (head_any _).mono ?_; rintro e w0 ⟨rfl, h0⟩)
    all_goals (try (exfalso; omega))
    go_ret
    exact ⟨rfl, h0⟩
end Go.Proofs.Ytflehgdhdfmacaa
