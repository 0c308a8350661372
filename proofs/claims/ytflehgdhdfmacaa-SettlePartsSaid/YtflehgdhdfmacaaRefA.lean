/-
  THE WALKS over the reference of settle, second part: Settles, Gets, Twice, Dispute.
-/
import Derived.Test.YtflehgdhdfmacaaRef
namespace Go.Proofs.Ytflehgdhdfmacaa
open Go.RowKit
set_option linter.unusedVariables false
attribute [local go_sem ↓] Go.wp_at_zero Go.wp_at_succ

theorem nokR {m : Int} {x : Nat → Int} (h : ¬ okR m x = true) : x 3 < 0 ∨ (0 ≤ x 3 ∧ m ≤ x 3) ∨ (0 ≤ x 3 ∧ x 3 < m ∧ x 4 < 0) ∨ (0 ≤ x 3 ∧ x 3 < m ∧ 0 ≤ x 4 ∧ m ≤ x 4) ∨ (0 ≤ x 3 ∧ x 3 < m ∧ 0 ≤ x 4 ∧ x 4 < m ∧ x 8 < 0) ∨ (0 ≤ x 3 ∧ x 3 < m ∧ 0 ≤ x 4 ∧ x 4 < m ∧ 0 ≤ x 8 ∧ 1000000000 < x 8) := by
  rw [okR_iff] at h
  omega

set_option maxRecDepth 100000 in
set_option maxHeartbeats 2000000 in
theorem settles_any (x : Nat → Int) (m : Int) (w : World) :
    Calls Try.prog 20 #[.agg #[.int .i64 (x 0), .int .i64 (x 1), .int .i64 (x 2), .int .i64 (x 3), .int .i64 (x 4), .int .i64 (x 5), .int .i64 (x 6), .int .i64 (x 7), .int .i64 (x 8), .int .u64 (x 9), .int .u64 (x 10), .int .u64 (x 11), .int .u64 (x 12)], .int .i64 m] w
      fun e w' => e = .returned (.bool (okR m x)) ∧ Below w.heap.size w w' := by
  have HB : Hid (∀ o, Below w.heap.size w (w.alloc o)) := Lib.hid fun o => bel_alloc (Below.refl _ _) o
  by_cases hok : okR m x = true
  · have HO := Lib.hid hok
    obtain ⟨⟨h1, h2⟩, ⟨h3, h4⟩, h5, h6⟩ := okR_iff.1 hok
    have e2 : decide (x 3 < m) = true := decide_eq_true h2
    have e4 : decide (x 4 < m) = true := decide_eq_true h4
    have e6 : decide (x 8 ≤ 1000000000) = true := decide_eq_true h6
    clear hok
    go_enter Try.func20, Try.ntmps20
    go_wp2
    all_goals (try (exfalso; omega))
    go_ret
    exact ⟨ret_bool HO.out.symm, HB.out _⟩
  · have HO := Lib.hid (show okR m x = false by simpa using hok)
    have hd := nokR hok
    clear hok
    rcases hd with h1 | ⟨h1, h2⟩ | ⟨h1, h2, h3⟩ | ⟨h1, h2, h3, h4⟩ | ⟨h1, h2, h3, h4, h5⟩ | ⟨h1, h2, h3, h4, h5, h6⟩
    · have e1 : decide (0 ≤ x 3) = false := decide_eq_false (by omega)
      go_enter Try.func20, Try.ntmps20
      go_wp2
      all_goals (try (exfalso; omega))
      go_ret
      exact ⟨ret_bool HO.out.symm, HB.out _⟩
    · have e2 : decide (x 3 < m) = false := decide_eq_false (by omega)
      go_enter Try.func20, Try.ntmps20
      go_wp2
      all_goals (try (exfalso; omega))
      go_ret
      exact ⟨ret_bool HO.out.symm, HB.out _⟩
    · have e3 : decide (0 ≤ x 4) = false := decide_eq_false (by omega)
      go_enter Try.func20, Try.ntmps20
      go_wp2
      all_goals (try (exfalso; omega))
      go_ret
      exact ⟨ret_bool HO.out.symm, HB.out _⟩
    · have e4 : decide (x 4 < m) = false := decide_eq_false (by omega)
      go_enter Try.func20, Try.ntmps20
      go_wp2
      all_goals (try (exfalso; omega))
      go_ret
      exact ⟨ret_bool HO.out.symm, HB.out _⟩
    · have e5 : decide (0 ≤ x 8) = false := decide_eq_false (by omega)
      go_enter Try.func20, Try.ntmps20
      go_wp2
      all_goals (try (exfalso; omega))
      go_ret
      exact ⟨ret_bool HO.out.symm, HB.out _⟩
    · have e6 : decide (x 8 ≤ 1000000000) = false := decide_eq_false (by omega)
      go_enter Try.func20, Try.ntmps20
      go_wp2
      all_goals (try (exfalso; omega))
      go_ret
      exact ⟨ret_bool HO.out.symm, HB.out _⟩

set_option maxRecDepth 100000 in
set_option maxHeartbeats 2000000 in
theorem gets_any (A : Option Addr) (n c : Nat) (X : Nat → Nat → Int) (m q : Nat) (w : World) (hn : n ≤ 64) (hR : RR w A n X) (hall : allR m X n) :
    Calls Try.prog 24 #[.slice A n c, .int .i64 (q : Int)] w fun e w' => e = .returned (.int .i64 (get X n q)) ∧ w = w' := by
  have HR := Lib.hid hR
  have HALL := Lib.hid hall
  clear hR hall
  go_enter Try.func24, Try.ntmps24
  go_wp2_with fail
  go_loopw [5, 6] (fun a i wr => ∃ k : Nat, k ≤ n ∧ i = .int .i64 k ∧ a = .int .i64 (get X k q) ∧ w = wr) (fun _ i _ => n - (intOf i).toNat)
  case atStart => exact ⟨0, Nat.zero_le _, rfl, rfl, rfl⟩
  case round =>
    obtain ⟨k, hk, rfl, rfl, rfl⟩ := hrel
    by_cases hlt : k < n
    · obtain ⟨b, o, rfl, hb, c0, c1, c2, c3, c4, c5, c6, c7, c8, c9, c10, c11, c12⟩ := HR.out.cells hlt
      obtain ⟨h3, h4, h8, h9⟩ := okR_iff.1 (HALL.out k hlt)
      have hbd := get_bd k (fun j hj => HALL.out j (by omega)) q
      have HG : Hid (get X (k + 1) q = get X k q + (if X k 4 = (q : Int) then X k 8 else 0) - (if X k 3 = (q : Int) then X k 8 else 0)) := Lib.hid (by
        have e1 : (q = (X k 4).toNat) = (X k 4 = (q : Int)) := propext (by omega)
        have e2 : (q = (X k 3).toNat) = (X k 3 = (q : Int)) := propext (by omega)
        simp only [get, mvd, e1, e2])
      generalize get X k q = gk at hbd HG ⊢
      have i1 : (k : Int) < (n : Int) := by omega
      clear c0 c1 c2 c5 c6 c7 c9 c10 c11 c12
      by_cases t4 : X k 4 = (q : Int)
      · have e4 : (X k 4 == (q : Int)) = true := by simpa using t4
        by_cases t3 : X k 3 = (q : Int)
        · have e3 : (X k 3 == (q : Int)) = true := by simpa using t3
          have HF : Hid (gk = get X (k + 1) q) := Lib.hid (by rw [HG.out, if_pos t4, if_pos t3]; omega)
          clear HG t4 t3
          go_wp2_with fail
          all_goals (try (exfalso; omega))
          go_roundw
          case rel => exact ⟨k + 1, by omega, by go_num, by rw [← HF.out], by simp⟩
          case measure => simp [intOf] <;> omega
        · have e3 : (X k 3 == (q : Int)) = false := by simpa using t3
          have HF : Hid (gk + X k 8 = get X (k + 1) q) := Lib.hid (by rw [HG.out, if_pos t4, if_neg t3]; omega)
          clear HG t4
          go_wp2_with fail
          all_goals (try (exfalso; omega))
          go_roundw
          case rel => exact ⟨k + 1, by omega, by go_num, by rw [← HF.out], by simp⟩
          case measure => simp [intOf] <;> omega
      · have e4 : (X k 4 == (q : Int)) = false := by simpa using t4
        by_cases t3 : X k 3 = (q : Int)
        · have e3 : (X k 3 == (q : Int)) = true := by simpa using t3
          have HF : Hid (gk - X k 8 = get X (k + 1) q) := Lib.hid (by rw [HG.out, if_neg t4, if_pos t3]; omega)
          clear HG t3
          go_wp2_with fail
          all_goals (try (exfalso; omega))
          go_roundw
          case rel => exact ⟨k + 1, by omega, by go_num, by rw [← HF.out], by simp⟩
          case measure => simp [intOf] <;> omega
        · have e3 : (X k 3 == (q : Int)) = false := by simpa using t3
          have HF : Hid (gk = get X (k + 1) q) := Lib.hid (by rw [HG.out, if_neg t4, if_neg t3]; omega)
          clear HG
          go_wp2_with fail
          all_goals (try (exfalso; omega))
          go_roundw
          case rel => exact ⟨k + 1, by omega, by go_num, by rw [← HF.out], by simp⟩
          case measure => simp [intOf] <;> omega
    · obtain rfl : k = n := by omega
      go_wp2_with fail
      go_ret
      exact ⟨rfl, rfl⟩

set_option maxRecDepth 100000 in
set_option maxHeartbeats 2000000 in
theorem twice_any (A : Option Addr) (n c : Nat) (X : Nat → Nat → Int) (w : World) (hn : n ≤ 64) (hR : RR w A n X) :
    Calls Try.prog 23 #[.slice A n c] w fun e w' => (∃ b, e = .returned (.bool b) ∧ (b = true ↔ dup X n)) ∧ Below w.heap.size w w' := by
  have HR := Lib.hid hR
  clear hR
  go_enter Try.func23, Try.ntmps23
  go_wp2_with fail
  go_loopw [3] (fun i wr => ∃ k : Nat, k ≤ n ∧ i = .int .i64 k ∧ ¬ dup X k ∧ Below w.heap.size w wr) (fun i _ => n - (intOf i).toNat)
  case atStart => exact ⟨0, Nat.zero_le _, rfl, dup_zero X, Below.refl _ _⟩
  case round =>
    obtain ⟨k, hk, rfl, hnd, hbw⟩ := hrel
    have HND := Lib.hid hnd
    have HBW := Lib.hid hbw
    clear hnd hbw
    by_cases hlt : k < n
    · go_wp2_with fail
      obtain ⟨wf, rfl⟩ : ∃ wf, wf = wr := ⟨_, rfl⟩
      go_loopw [4] (fun i w2 => ∃ q : Nat, q ≤ k ∧ i = .int .i64 q ∧ (∀ j, j < q → ¬ (X k 4 = X j 4 ∧ X k 0 = X j 0)) ∧ Below w.heap.size w w2) (fun i _ => k - (intOf i).toNat)
      case atStart => exact ⟨0, Nat.zero_le _, rfl, fun j hj => by omega, HBW.out⟩
      case round =>
        obtain ⟨q, hq, rfl, hno, hb2⟩ := hrel
        have HNO := Lib.hid hno
        have HB2 := Lib.hid hb2
        clear hno hb2
        by_cases hqk : q < k
        · obtain ⟨b, o, rfl, hb, c0, c1, c2, c3, c4, c5, c6, c7, c8, c9, c10, c11, c12⟩ := (HR.out.keep HB2.out).cells hlt
          obtain ⟨b', o', e', hb', d0, d1, d2, d3, d4, d5, d6, d7, d8, d9, d10, d11, d12⟩ := (HR.out.keep HB2.out).cells (show q < n by omega)
          cases e'
          clear c1 c2 c3 c5 c6 c7 c8 c9 c10 c11 c12 d1 d2 d3 d5 d6 d7 d8 d9 d10 d11 d12
          have i1 : (k : Int) < (n : Int) := by omega
          have i2 : (q : Int) < (n : Int) := by omega
          have i3 : (q : Int) < (k : Int) := by omega
          have i4 : (0 : Int) ≤ (k : Int) := by omega
          have i5 : (0 : Int) ≤ (q : Int) := by omega
          by_cases t4 : X k 4 = X q 4
          · by_cases t0 : X k 0 = X q 0
            · have HT := Lib.hid (show dup X n from ⟨k, hlt, q, hqk, t4, t0⟩)
              have e4 : (X k 4 == X q 4) = true := by simpa using t4
              have e0 : (X k 0 == X q 0) = true := by simpa using t0
              clear t4 t0
              go_wp2_with fail
              go_quiet (fail)
              go_wp2_with fail
              go_ret
              exact ⟨⟨true, rfl, ⟨fun _ => HT.out, fun _ => rfl⟩⟩, below_drewN HB2.out _⟩
            · have HT := Lib.hid (show ¬ (X k 4 = X q 4 ∧ X k 0 = X q 0) from fun h => t0 h.2)
              have e4 : (X k 4 == X q 4) = true := by simpa using t4
              have e0 : (X k 0 == X q 0) = false := by simpa using t0
              clear t4 t0
              go_wp2_with fail
              go_quiet (fail)
              go_wp2_with fail
              go_roundw
              case rel => exact ⟨q + 1, by omega, by go_num, all_snoc HNO.out HT.out, below_drewN HB2.out _⟩
              case measure => simp [intOf] <;> omega
          · have HT := Lib.hid (show ¬ (X k 4 = X q 4 ∧ X k 0 = X q 0) from fun h => t4 h.1)
            have e4 : (X k 4 == X q 4) = false := by simpa using t4
            clear t4
            go_wp2_with fail
            go_quiet (fail)
            go_wp2_with fail
            go_roundw
            case rel => exact ⟨q + 1, by omega, by go_num, all_snoc HNO.out HT.out, below_drewN HB2.out _⟩
            case measure => simp [intOf] <;> omega
        · obtain rfl : q = k := by omega
          go_wp2_with fail
          go_roundw
          case rel =>
            refine ⟨q + 1, by omega, by go_num, fun hd => ?_, HB2.out⟩
            rcases dup_succ.1 hd with h | h
            · exact HND.out h
            · obtain ⟨j, hj, he⟩ := (keys_mem q).1 h
              injection he with h1 h2
              exact HNO.out j hj ⟨h1, h2⟩
          case measure => simp [intOf] <;> omega
    · obtain rfl : k = n := by omega
      go_wp2_with fail
      go_ret
      exact ⟨⟨false, rfl, Iff.intro (fun h => absurd h (by simp)) (fun h => absurd h HND.out)⟩, HBW.out⟩

theorem rdisp_limit (A B : Option Addr) (n m c d : Nat) (w : World) (hn : n ≤ 9223372036854775807) (hm : m ≤ 9223372036854775807) (hl : 64 < n ∨ 64 < m) :
    Calls Try.prog 15 #[.slice A n c, .slice B m d] w fun e w' => e = .returned (.tuple #[.int .i64 0, .bool false, .int .i64 2]) ∧ w = w' := by
  have HL := Lib.hid hl
  clear hl
  go_enter Try.func15, Try.ntmps15
  go_wp2_with fail
  all_goals first
    | (go_ret3; exact ⟨rfl, rfl⟩)
    | (exfalso; have := HL.out; omega)

set_option maxRecDepth 100000 in
set_option maxHeartbeats 2000000 in
theorem rdisp_any (A B : Option Addr) (n m c d : Nat) (X Y : Nat → Nat → Int) (w : World) (hn : n ≤ 64) (hm : m ≤ 64) (hA : RG w A n X) (hB : RG w B m Y) :
    Calls Try.prog 15 #[.slice A n c, .slice B m d] w fun e w' => e = .returned (.tuple #[.int .i64 (dN X Y n m), .bool (dI X Y n m), .int .i64 0]) ∧ Below w.heap.size w w' := by
  have HA := Lib.hid hA
  have HB := Lib.hid hB
  clear hA hB
  have e64 : decide ((64 : Int) < (m : Int)) = false := decide_eq_false (by omega)
  go_enter Try.func15, Try.ntmps15
  go_wp2_with fail
  all_goals (try (exfalso; omega))
  go_loopw [7] (fun i wr => ∃ k : Nat, k ≤ n ∧ k ≤ m ∧ i = .int .i64 k ∧ (∀ j, j < k → eq5 (X j) (Y j) = true) ∧ Below w.heap.size w wr) (fun i _ => n - (intOf i).toNat)
  case atStart => exact ⟨0, Nat.zero_le _, Nat.zero_le _, rfl, fun j hj => by omega, Below.refl _ _⟩
  case round =>
    obtain ⟨k, hk, hk2, rfl, hall, hbw⟩ := hrel
    have HALL := Lib.hid hall
    have HBW := Lib.hid hbw
    clear hall hbw
    by_cases h1 : k < n
    · by_cases h2 : k < m
      · obtain ⟨b, o, rfl, hb, a0, a1, a2, a3, a4⟩ := (HA.out.keep HBW.out) k (by omega)
        obtain ⟨b', o', rfl, hb', b0, b1, b2, b3, b4⟩ := (HB.out.keep HBW.out) k (by omega)
        have i0 : (0 : Int) ≤ (k : Int) := by omega
        have i1 : (k : Int) < (n : Int) := by omega
        have i2 : (k : Int) < (m : Int) := by omega
        have j1 : decide ((k : Int) < (n : Int)) = true := decide_eq_true i1
        have j2 : decide ((k : Int) < (m : Int)) = true := decide_eq_true i2
        cases he : eq5 (X k) (Y k)
        · have HE := Lib.hid he
          have hres := Lib.hid (dis_at (X := X) (Y := Y) (n := n) (m := m) (k := k) (by omega) (by omega) HALL.out he)
          have hd := ne5 he
          clear he
          have q1 : ((k : Int) == (n : Int)) = false := by simp; omega
          rcases hd with h0 | ⟨h0, h1⟩ | ⟨h0, h1, h2⟩ | ⟨h0, h1, h2, h3⟩ | ⟨h0, h1, h2, h3, h4⟩
          all_goals
            go_wp2_with fail
            go_quiet (fail)
            go_wp2_with fail
            all_goals (try (exfalso; omega))
            go_ret3
            exact ⟨ret_three hres.out.1.symm hres.out.2.symm rfl, below_drewN HBW.out _⟩
        · have HE := Lib.hid he
          obtain ⟨h0, h1, h2, h3, h4⟩ := eq5_iff.1 he
          clear he
          go_wp2_with fail
          go_quiet (fail)
          go_wp2_with fail
          go_roundw
          case rel => exact ⟨k + 1, by omega, by omega, by go_num, all_snoc HALL.out HE.out, below_drewN HBW.out _⟩
          case measure => simp [intOf] <;> omega
      · obtain rfl : k = m := by omega
        have i1 : (k : Int) < (n : Int) := by omega
        have j1 : decide ((k : Int) < (n : Int)) = true := decide_eq_true i1
        have j2 : decide ((k : Int) < (k : Int)) = false := decide_eq_false (by omega)
        have q1 : ((k : Int) == (n : Int)) = false := by simp; omega
        have hres := Lib.hid (dis_end (X := X) (Y := Y) (n := n) (m := k) (k := k) (by omega) (by omega) HALL.out)
        go_wp2_with fail
        go_quiet (fail)
        go_wp2_with fail
        all_goals (try (exfalso; omega))
        go_ret3
        exact ⟨ret_three hres.out.1.symm hres.out.2.symm rfl, below_drewN HBW.out _⟩
    · obtain rfl : k = n := by omega
      have j1 : decide ((k : Int) < (k : Int)) = false := decide_eq_false (by omega)
      by_cases h2 : k = m
      · subst h2
        have q1 : ((k : Int) == (k : Int)) = true := by simp
        have hres := Lib.hid (dis_no (X := X) (Y := Y) (n := k) HALL.out)
        go_wp2_with fail
        go_quiet (fail)
        go_wp2_with fail
        all_goals (try (exfalso; omega))
        go_ret3
        exact ⟨ret_three hres.out.1.symm hres.out.2.symm rfl, below_drewN HBW.out _⟩
      · have q1 : ((k : Int) == (k : Int)) = true := by simp
        have q2 : ((k : Int) == (m : Int)) = false := by simp; omega
        have hres := Lib.hid (dis_end (X := X) (Y := Y) (n := k) (m := m) (k := k) (by omega) (by omega) HALL.out)
        go_wp2_with fail
        go_quiet (fail)
        go_wp2_with fail
        all_goals (try (exfalso; omega))
        go_ret3
        exact ⟨ret_three hres.out.1.symm hres.out.2.symm rfl, below_drewN HBW.out _⟩
end Go.Proofs.Ytflehgdhdfmacaa
