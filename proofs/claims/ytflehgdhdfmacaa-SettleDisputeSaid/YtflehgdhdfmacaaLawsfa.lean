/-
  THE LAW SettleDispute, walked.
-/
import Derived.Test.YtflehgdhdfmacaaLaws
namespace Go.Proofs.Ytflehgdhdfmacaa
open Go.RowKit
set_option linter.unusedVariables false
attribute [local go_sem ↓] Go.wp_at_zero Go.wp_at_succ

theorem eq5_comm (x y : Nat → Int) : eq5 x y = eq5 y x := by
  have : eq5 x y = true ↔ eq5 y x = true := by rw [eq5_iff, eq5_iff]; constructor <;> (rintro ⟨h0, h1, h2, h3, h4⟩; exact ⟨h0.symm, h1.symm, h2.symm, h3.symm, h4.symm⟩)
  exact Bool.eq_iff_iff.2 this
theorem disp_cases (X Y : Nat → Nat → Int) (n m : Nat) : (n = m ∧ ∀ j, j < n → eq5 (X j) (Y j) = true) ∨ ∃ q, q ≤ n ∧ q ≤ m ∧ (∀ j, j < q → eq5 (X j) (Y j) = true) ∧ ((q < n ∧ q < m ∧ eq5 (X q) (Y q) = false) ∨ (q = n ∧ q < m) ∨ (q = m ∧ q < n)) := by
  have h1 := fi_le (fun i => eq5 (X i) (Y i)) (min n m)
  have h2 := fi_lt (fun i => eq5 (X i) (Y i)) (min n m)
  have h3 := fi_at (fun i => eq5 (X i) (Y i)) (min n m)
  generalize fi (fun i => eq5 (X i) (Y i)) (min n m) = q at h1 h2 h3
  by_cases e : q < min n m
  · exact .inr ⟨q, by omega, by omega, h2, .inl ⟨by omega, by omega, h3 e⟩⟩
  · by_cases e' : n = m
    · exact .inl ⟨e', fun j hj => h2 j (by omega)⟩
    · refine .inr ⟨q, by omega, by omega, h2, ?_⟩
      rcases Nat.lt_or_ge n m with h | h
      · exact .inr (.inl ⟨by omega, by omega⟩)
      · exact .inr (.inr ⟨by omega, by omega⟩)
/-- what a dispute at q says, of these lists, in the other order and of the lists up to it -/
theorem disp_at {X Y : Nat → Nat → Int} {n m q : Nat} (ha : ∀ j, j < q → eq5 (X j) (Y j) = true) (h : (q < n ∧ q < m ∧ eq5 (X q) (Y q) = false) ∨ (q = n ∧ q < m) ∨ (q = m ∧ q < n)) : dN X Y n m = q ∧ dI X Y n m = true := by
  rcases h with ⟨h1, h2, h3⟩ | ⟨h1, h2⟩ | ⟨h1, h2⟩
  · exact dis_at h1 h2 ha h3
  · exact dis_end (by omega) (by omega) ha
  · exact dis_end (by omega) (by omega) ha
theorem RG.take {w : World} {A : Option Addr} {n k : Nat} {X : Nat → Nat → Int} (x : RG w A n X) (h : k ≤ n) : RG w A k X := fun i hi => x i (by omega)

set_option maxRecDepth 100000 in
set_option maxHeartbeats 4000000 in
theorem dispute_no (A : Option Addr) (n c : Nat) (X : Nat → Nat → Int) (B : Option Addr) (d : Nat) (Y : Nat → Nat → Int) (w : World) (hn : n ≤ 64) (hX : RG w A n X) (hY : RG w B n Y) (ha : ∀ j, j < n → eq5 (X j) (Y j) = true) :
    Calls Try.prog 8 #[.slice A n c, .slice B n d] w fun e w' => e = .returned (.bool true) ∧ Below w.heap.size w w' := by
  have HX := Lib.hid hX
  have HY := Lib.hid hY
  have HA := Lib.hid ha
  have HD1 := Lib.hid (dis_no ha)
  have HD2 := Lib.hid (dis_no (X := Y) (Y := X) fun j hj => by rw [eq5_comm]; exact ha j hj)
  clear hX hY ha
  have e64 : decide ((64 : Int) < (n : Int)) = false := decide_eq_false (by omega)
  go_enter Try.func8, Try.ntmps8
  go_wp2_with (first
    | (go_at_call 9; with_reducible refine (head_any _).mono ?_; rintro e w0 ⟨rfl, h0⟩)
    | (go_at_call 14; with_reducible refine (disp_any A B n n c d X Y w0 hn hn (HX.out.keep h0) (HY.out.keep h0)).mono ?_; rintro e w1 ⟨rfl, h1⟩; rw [HD1.out.1, HD1.out.2]
       have H1 := Lib.hid (bel_step h0 h1))
    | (go_at_call 14; with_reducible refine (disp_any B A n n d c Y X w1 hn hn (HY.out.keep H1.out) (HX.out.keep H1.out)).mono ?_; rintro e w2 ⟨rfl, h2⟩; rw [HD2.out.1, HD2.out.2]
       have H2 := Lib.hid (bel_step H1.out h2)))
  all_goals (try (exfalso; omega))
  clear h0 h1 h2 H1
  go_loopw [5, 12] (fun u i wr => ∃ k : Nat, k ≤ n ∧ i = .int .i64 k ∧ u = .bool true ∧ Below w.heap.size w wr) (fun _ i _ => n - (intOf i).toNat)
  case atStart => exact ⟨0, Nat.zero_le _, rfl, rfl, H2.out⟩
  case round =>
    obtain ⟨k, hk, rfl, rfl, hbw⟩ := hrel
    have HBW := Lib.hid hbw
    clear hbw
    by_cases hlt : k < n
    · obtain ⟨b, o, rfl, hb, a0, a1, a2, a3, a4⟩ := (HX.out.keep HBW.out) k hlt
      obtain ⟨b', o', rfl, hb', b0, b1, b2, b3, b4⟩ := (HY.out.keep HBW.out) k hlt
      obtain ⟨h0, h1, h2, h3, h4⟩ := eq5_iff.1 (HA.out k hlt)
      have i0 : (0 : Int) ≤ (k : Int) := by omega
      have i1 : (k : Int) < (n : Int) := by omega
      have j1 : decide ((k : Int) < (n : Int)) = true := decide_eq_true i1
      go_wp2_with fail
      go_quiet (fail)
      go_wp2_with fail
      go_roundw
      case rel => exact ⟨k + 1, by omega, by go_num, rfl, below_drewN HBW.out _⟩
      case measure => simp [intOf] <;> omega
    · obtain rfl : k = n := by omega
      have j1 : decide ((k : Int) < (k : Int)) = false := decide_eq_false (by omega)
      have j2 : ((k : Int) == (k : Int)) = true := by simp
      go_wp2_with fail
      all_goals (try (exfalso; omega))
      go_ret
      exact ⟨rfl, HBW.out⟩

theorem disp_cut (A B : Option Addr) (sa sb c d : Nat) (X Y : Nat → Nat → Int) (q : Nat) (w : World) (h1 : sa ≤ 64) (h2 : sb ≤ 64) (hA : RG w A sa X) (hB : RG w B sb Y) (ha : ∀ j, j < q → eq5 (X j) (Y j) = true) (h : (q < sa ∧ q < sb ∧ eq5 (X q) (Y q) = false) ∨ (q = sa ∧ q < sb) ∨ (q = sb ∧ q < sa)) :
    Calls Try.prog 14 #[.slice A sa c, .slice B sb d] w fun e w' => e = .returned (.tuple #[.int .i64 (q : Int), .bool true, .int .i64 0]) ∧ Below w.heap.size w w' := by
  refine (disp_any A B sa sb c d X Y w h1 h2 hA hB).mono ?_
  rintro e w' ⟨rfl, hb⟩
  obtain ⟨e1, e2⟩ := disp_at ha h
  exact ⟨ret_three e1 e2 rfl, hb⟩

set_option maxRecDepth 100000 in
set_option maxHeartbeats 4000000 in
theorem dispute_a (A : Option Addr) (n m q c : Nat) (X : Nat → Nat → Int) (B : Option Addr) (d : Nat) (Y : Nat → Nat → Int) (w : World) (hc : n ≤ c ∧ c ≤ 9223372036854775807) (hd : m ≤ d ∧ d ≤ 9223372036854775807) (hAn : A = none → c = 0) (hBn : B = none → d = 0) (hn : n ≤ 64) (hm : m ≤ 64) (hX : RG w A n X) (hY : RG w B m Y) (ha : ∀ j, j < q → eq5 (X j) (Y j) = true) (hq1 : q < n) (hq2 : q < m) (hne : eq5 (X q) (Y q) = false) :
    Calls Try.prog 8 #[.slice A n c, .slice B m d] w fun e w' => e = .returned (.bool true) ∧ Below w.heap.size w w' := by
  have HX := Lib.hid hX
  have HY := Lib.hid hY
  have HA := Lib.hid ha
  have HA2 : Hid (∀ j, j < q → eq5 (Y j) (X j) = true) := Lib.hid fun j hj => by rw [eq5_comm]; exact ha j hj
  clear hX hY ha
  have e64 : decide ((64 : Int) < (m : Int)) = false := decide_eq_false (by omega)
  have q0 : decide ((q : Int) < 0) = false := decide_eq_false (by omega)
  have q2 : decide ((m : Int) < (q : Int)) = false := decide_eq_false (by omega)
  have q3 : ((q : Int) == (n : Int)) = false := by simp; omega
  have q4 : ((q : Int) == (m : Int)) = false := by simp; omega
  have HNE := Lib.hid hne
  clear hne
  go_enter Try.func8, Try.ntmps8
  go_wp2_with (first
    | (go_at_call 9; with_reducible refine (head_any _).mono ?_; rintro e w0 ⟨rfl, h0⟩)
    | (go_at_call 14; with_reducible refine (disp_cut A B n m c d X Y q w0 hn hm (HX.out.keep h0) (HY.out.keep h0) HA.out (by exact .inl ⟨hq1, hq2, HNE.out⟩)).mono ?_; rintro e w1 ⟨rfl, h1⟩
       have H1 := Lib.hid (bel_step h0 h1))
    | (go_at_call 14; with_reducible refine (disp_cut B A m n d c Y X q w1 hm hn (HY.out.keep H1.out) (HX.out.keep H1.out) HA2.out (by exact .inl ⟨hq2, hq1, by rw [eq5_comm]; exact HNE.out⟩)).mono ?_; rintro e w2 ⟨rfl, h2⟩
       have H2 := Lib.hid (bel_step H1.out h2)))
  all_goals (try (exfalso; omega))
  clear h0 h1 h2 H1
  go_loopw [5, 13] (fun u i wr => ∃ k : Nat, k ≤ q ∧ i = .int .i64 k ∧ u = .bool true ∧ Below w.heap.size w wr) (fun _ i _ => q - (intOf i).toNat)
  case atStart => exact ⟨0, Nat.zero_le _, rfl, rfl, H2.out⟩
  case round =>
    obtain ⟨k, hk, rfl, rfl, hbw⟩ := hrel
    have HBW := Lib.hid hbw
    clear hbw H2
    by_cases hlt : k < q
    · obtain ⟨b, o, rfl, hb, a0, a1, a2, a3, a4⟩ := (HX.out.keep HBW.out) k (by omega)
      obtain ⟨b', o', rfl, hb', b0, b1, b2, b3, b4⟩ := (HY.out.keep HBW.out) k (by omega)
      obtain ⟨h0, h1, h2, h3, h4⟩ := eq5_iff.1 (HA.out k hlt)
      have i0 : (0 : Int) ≤ (k : Int) := by omega
      have i1 : (k : Int) < (n : Int) := by omega
      have i2 : (k : Int) < (m : Int) := by omega
      have j1 : decide ((k : Int) < (q : Int)) = true := decide_eq_true (by omega)
      go_wp2_with fail
      go_quiet (fail)
      go_wp2_with fail
      go_roundw
      case rel => exact ⟨k + 1, by omega, by go_num, rfl, below_drewN HBW.out _⟩
      case measure => simp [intOf] <;> omega
    · obtain rfl : k = q := by omega
      clear q0 q2 e64
      go_upto_region 20 with (fail)
      go_cut [14, 15, 16] (fun t1 t2 t3 wx => t1 = .int .i64 (k : Int) ∧ t2 = .bool true ∧ t3 = .int .i64 0 ∧ Below w.heap.size w wx)
      case first =>
        obtain ⟨b, o, rfl, hb, a0, a1, a2, a3, a4⟩ := HX.out k hq1
        obtain ⟨b', o', rfl, hb', b0, b1, b2, b3, b4⟩ := HY.out k hq2
        clear a0 a1 a2 a3 a4 b0 b1 b2 b3 b4
        have t1 : ((k : Int) + 1).toNat = k + 1 := by omega
        have t2 : IntKind.i64.wrap ((k : Int) + 1) = (k : Int) + 1 := IntWalk.i64_in _ (by omega)
        have l1 : (0 : Int) ≤ (k : Int) + 1 := by omega
        have l2 : (k : Int) + 1 ≤ (c : Int) := by omega
        have l3 : (k : Int) + 1 ≤ (d : Int) := by omega
        have l4 : (n : Int) ≤ (c : Int) := by omega
        have l5 : (m : Int) ≤ (d : Int) := by omega
        by_cases hk1 : (k : Int) + 1 < (n : Int) <;> by_cases hk2 : (k : Int) + 1 < (m : Int)
        all_goals
          go_region_held3 (fun _ => True) (trivial) (first
            | (go_at_call 14; with_reducible refine (disp_cut _ _ _ _ _ _ X Y k _ (by omega) (by omega) ((HX.out.take (by omega)).keep (by repeat (first | exact HBW.out | apply below_drewN | apply Below.drew))) ((HY.out.take (by omega)).keep (by repeat (first | exact HBW.out | apply below_drewN | apply Below.drew))) HA.out (by first | exact .inl ⟨by omega, by omega, HNE.out⟩ | exact .inr (.inl ⟨by omega, by omega⟩) | exact .inr (.inr ⟨by omega, by omega⟩))).mono ?_; rintro e w3 ⟨rfl, h3⟩))
          all_goals ((try go_wp2_with fail); go_meet; exact ⟨rfl, rfl, rfl, by repeat (first | exact bel_step (by repeat (first | exact HBW.out | apply below_drewN | apply Below.drew)) h3 | apply below_drewN | apply Below.drew)⟩)
      case rest =>
        obtain ⟨rfl, rfl, rfl, hwc⟩ := hcut
        have HWC := Lib.hid hwc
        clear hwc HBW
        obtain ⟨b, o, rfl, hb, a0, a1, a2, a3, a4⟩ := (HX.out.keep HWC.out) k hq1
        obtain ⟨b', o', rfl, hb', b0, b1, b2, b3, b4⟩ := (HY.out.keep HWC.out) k hq2
        have i0 : (0 : Int) ≤ (k : Int) := by omega
        have i1 : (k : Int) < (n : Int) := by omega
        have i2 : (k : Int) < (m : Int) := by omega
        rcases ne5 HNE.out with h0 | ⟨h0, h1⟩ | ⟨h0, h1, h2⟩ | ⟨h0, h1, h2, h3⟩ | ⟨h0, h1, h2, h3, h4⟩
        all_goals
          go_wp2_with fail
          go_quiet (fail)
          go_wp2_with fail
          go_ret
          exact ⟨rfl, below_drewN HWC.out _⟩

end Go.Proofs.Ytflehgdhdfmacaa
