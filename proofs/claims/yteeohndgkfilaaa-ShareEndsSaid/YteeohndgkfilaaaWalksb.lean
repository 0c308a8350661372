/-
  THE WALKS over package share, second part: increasing of transfers, find.
-/
import Derived.Test.YteeohndgkfilaaaWalks
namespace Go.Proofs.Yteeohndgkfilaaa
open Go.RowKit
set_option linter.unusedVariables false
attribute [local go_sem ↓] Go.wp_at_zero Go.wp_at_succ

theorem ret_ib {a : Int} {x y : Bool} (h : x = y) : Ending.returned (.tuple #[.int .i64 a, .bool x]) = .returned (.tuple #[.int .i64 a, .bool y]) := by rw [h]
theorem below_drew {B : Nat} {a w : World} (h : Below B a w) : Below B a w.drew := ⟨h.os, h.tape, h.output, h.size, h.block⟩

set_option maxRecDepth 100000 in
set_option maxHeartbeats 2000000 in
theorem inc_tr (A : Option Addr) (n c : Nat) (l : List (Int × Int)) (w : World) (hn : n ≤ 100) (hl : l.length = n) (hR : RL w A (cT l)) :
    Calls Try.prog 34 #[.slice A n c, .func (.func 36) #[] #[]] w fun e w' => e = .returned (.bool (incTB l)) ∧ Below w.heap.size w w' := by
  have HR := Lib.hid hR
  have HL := Lib.hid hl
  clear hR hl
  go_enter Try.func34, Try.ntmps34
  go_wp2_with fail
  go_loopw [5] (fun i wr => ∃ k : Nat, 1 ≤ k ∧ k ≤ n + 1 ∧ i = .int .i64 k ∧ (∀ i, i + 1 < k → i + 1 < n → (at2 l i).1 < (at2 l (i + 1)).1) ∧ Below w.heap.size w wr) (fun i _ => n + 1 - (intOf i).toNat)
  case atStart => exact ⟨1, Nat.le_refl _, by omega, rfl, fun i h1 h2 => by omega, Below.refl _ _⟩
  case round =>
    obtain ⟨k, hk1, hk, rfl, hinc, hbw⟩ := hrel
    have HINC := Lib.hid hinc
    have HBW := Lib.hid hbw
    clear hinc hbw
    by_cases hlt : k < n
    · obtain ⟨q, rfl⟩ : ∃ q, k = q + 1 := ⟨k - 1, by omega⟩
      obtain ⟨b, o, rfl, hb, c1, c2⟩ := (HR.out.keep HBW.out).t (i := q + 1) (by have := HL.out; omega)
      obtain ⟨b', o', e', hb', c3, c4⟩ := (HR.out.keep HBW.out).t (i := q) (by have := HL.out; omega)
      cases e'
      have i1 : (0 : Int) ≤ (q : Int) := by omega
      have i2 : (q : Int) + 1 < (n : Int) := by omega
      have i3 : (0 : Int) ≤ (q : Int) + 1 := by omega
      have i4 : (q : Int) < (n : Int) := by omega
      have i6 : (q : Int) + 1 - 1 = (q : Int) := by omega
      have i7 : IntKind.i64.wrap (q : Int) = (q : Int) := IntWalk.i64_in _ (by omega)
      have i8 : ((q : Int) + 1).toNat = q + 1 := by omega
      have rl := (HR.out.keep HBW.out)
      have RC : Hid (∀ W : World, Below wr.heap.size wr W → W.cell? ⟨b, o + (q + 1) * 2, none⟩ = some (.int .i64 (at2 l (q + 1)).1) ∧ W.cell? ⟨b, o + (q + 1) * 2 + 1, none⟩ = some (.int .i64 (at2 l (q + 1)).2) ∧ W.cell? ⟨b, o + q * 2, none⟩ = some (.int .i64 (at2 l q).1) ∧ W.cell? ⟨b, o + q * 2 + 1, none⟩ = some (.int .i64 (at2 l q).2)) := Lib.hid fun W h => ⟨old_at c1 h, old_at c2 h, old_at c3 h, old_at c4 h⟩
      have hbe := Below.refl wr.heap.size wr
      clear rl
      go_wp2_with fail
      go_cut [25] (fun t wx => t = .bool (decide ((at2 l (q + 1)).1 ≤ (at2 l q).1)) ∧ Below wr.heap.size wr wx)
      case first =>
        go_region_held3 (fun w' => w'.cell? ⟨b, o + (q + 1) * 2, none⟩ = some (.int .i64 (at2 l (q + 1)).1) ∧ w'.cell? ⟨b, o + (q + 1) * 2 + 1, none⟩ = some (.int .i64 (at2 l (q + 1)).2) ∧ w'.cell? ⟨b, o + q * 2, none⟩ = some (.int .i64 (at2 l q).1) ∧ w'.cell? ⟨b, o + q * 2 + 1, none⟩ = some (.int .i64 (at2 l q).2)) (exact RC.out _ (by repeat (first | with_reducible exact hbe | with_reducible apply below_drew | with_reducible apply below_drewN)))
          (first | (go_at_call 36; with_reducible refine (key1 _ _ _).mono ?_; rintro e wy ⟨rfl, hy⟩; have hbe := bel_step (by repeat (first | with_reducible exact hbe | with_reducible apply below_drew | with_reducible apply below_drewN)) hy; clear hy))
        all_goals ((try go_wp2_with fail); go_meet; exact ⟨rfl, by repeat (first | with_reducible exact hbe | with_reducible apply below_drew | with_reducible apply below_drewN)⟩)
      case rest =>
        obtain ⟨rfl, hbx⟩ := hcut
        have HBX := Lib.hid hbx
        clear hbx hbe
        by_cases ht : (at2 l (q + 1)).1 ≤ (at2 l q).1
        · rw [decide_eq_true ht]
          have hres : Hid (false = incTB l) := by
            show _ = _
            have : ¬ incTB l = true := fun h => by have := incTB_iff.1 h q (by have := HL.out; omega); omega
            simpa using this
          clear ht
          go_wp2_with fail
          go_ret
          exact ⟨ret_bool hres.out, bel_step HBW.out HBX.out⟩
        · rw [decide_eq_false ht]
          have HT := Lib.hid (show (at2 l q).1 < (at2 l (q + 1)).1 by omega)
          clear ht
          go_wp2_with fail
          go_roundw
          case rel =>
            refine ⟨q + 1 + 1, by omega, by omega, by go_num, fun i h1 h2 => ?_, bel_step HBW.out HBX.out⟩
            by_cases e : i = q
            · subst e; exact HT.out
            · exact HINC.out i (by omega) h2
          case measure => simp [intOf] <;> omega
    · have hres : Hid (true = incTB l) := Lib.hid (incTB_iff.2 (fun i hi => HINC.out i (by have := HL.out; omega) (by have := HL.out; omega))).symm
      go_wp2_with fail
      all_goals (try (exfalso; omega))
      go_ret
      exact ⟨ret_bool hres.out, HBW.out⟩

/-- where a number is, or would be -/
def Place (f : Nat → Int) (n : Nat) (x : Int) (p : Nat) : Prop := p ≤ n ∧ (∀ i, i < p → f i < x) ∧ ∀ i, p ≤ i → i < n → x ≤ f i
theorem inc_lt {l : List Int} (h : Inc l) : ∀ i j, i < j → j < l.length → at1 l i < at1 l j := by
  intro i j hij
  induction j with
  | zero => omega
  | succ j ih =>
    intro hj
    have h1 := h j hj
    rcases Nat.lt_or_ge i j with h' | h'
    · have := ih h' (by omega); omega
    · obtain rfl : i = j := by omega
      exact h1
theorem incT_lt {l : List (Int × Int)} (h : IncT l) : ∀ i j, i < j → j < l.length → (at2 l i).1 < (at2 l j).1 := by
  intro i j hij
  induction j with
  | zero => omega
  | succ j ih =>
    intro hj
    have h1 := h j hj
    rcases Nat.lt_or_ge i j with h' | h'
    · have := ih h' (by omega); omega
    · obtain rfl : i = j := by omega
      exact h1
theorem mid_ok {lo hi : Nat} (h : lo < hi) : ∃ m : Nat, lo ≤ m ∧ m < hi ∧ (lo : Int) + ((hi : Int) - lo).tdiv 2 = m := by
  refine ⟨lo + (hi - lo) / 2, by omega, by omega, ?_⟩
  rw [Int.tdiv_eq_ediv_of_nonneg (by omega)]
  omega

set_option maxRecDepth 100000 in
set_option maxHeartbeats 2000000 in
theorem find_int (A : Option Addr) (n c : Nat) (l : List Int) (x : Int) (w : World) (hn : n ≤ 100) (hl : l.length = n) (hR : RL w A (cI l)) (hI : Inc l) :
    Calls Try.prog 27 #[.slice A n c, .func (.func 37) #[] #[], .int .i64 x] w fun e w' => (∃ p : Nat, e = .returned (.tuple #[.int .i64 (p : Int), .bool (decide (p < n ∧ at1 l p = x))]) ∧ Place (at1 l) n x p) ∧ w = w' := by
  have HR := Lib.hid hR
  have HL := Lib.hid hl
  have HI := Lib.hid hI
  clear hR hl hI
  go_enter Try.func27, Try.ntmps27
  go_wp2_with fail
  go_loopw [8, 9] (fun a e wr => ∃ lo hi : Nat, lo ≤ hi ∧ hi ≤ n ∧ a = .int .i64 lo ∧ e = .int .i64 hi ∧ (∀ i, i < lo → at1 l i < x) ∧ (∀ i, hi ≤ i → i < n → x ≤ at1 l i) ∧ w = wr) (fun a e _ => (intOf e - intOf a).toNat)
  case atStart => exact ⟨0, n, Nat.zero_le _, Nat.le_refl _, rfl, rfl, fun i hi => by omega, fun i h1 h2 => by omega, rfl⟩
  case round =>
    obtain ⟨lo, hi, h1, h2, rfl, rfl, ha, hb, rfl⟩ := hrel
    have HA := Lib.hid ha
    have HB := Lib.hid hb
    clear ha hb
    by_cases hlt : lo < hi
    · obtain ⟨m, m1, m2, hm⟩ := mid_ok hlt
      obtain ⟨b, o, rfl, hbb, hc⟩ := HR.out.i (i := m) (by have := HL.out; omega)
      have j1 : (lo : Int) < (hi : Int) := by omega
      have j2 : (0 : Int) ≤ (m : Int) := by omega
      have j3 : (m : Int) < (n : Int) := by omega
      by_cases ht : at1 l m < x
      · have e1 : decide (at1 l m < x) = true := decide_eq_true ht
        have HT := Lib.hid ht
        clear ht
        go_upto_region 4 with (fail)
        (try rw [hm])
        clear hm
        go_wp2_with (go_at_call 37; with_reducible refine (key2 _ _).mono ?_; rintro e w1 ⟨rfl, rfl⟩)
        go_roundw
        case rel =>
          refine ⟨m + 1, hi, by omega, h2, by go_num, rfl, fun i hi' => ?_, HB.out, by simp⟩
          rcases Nat.lt_or_ge i m with h' | h'
          · have := inc_lt HI.out i m h' (by have := HL.out; omega); have := HT.out; omega
          · obtain rfl : i = m := by omega
            exact HT.out
        case measure => simp [intOf] <;> omega
      · have e1 : decide (at1 l m < x) = false := decide_eq_false ht
        have HT := Lib.hid (show x ≤ at1 l m by omega)
        clear ht
        go_upto_region 4 with (fail)
        (try rw [hm])
        clear hm
        go_wp2_with (go_at_call 37; with_reducible refine (key2 _ _).mono ?_; rintro e w1 ⟨rfl, rfl⟩)
        go_roundw
        case rel =>
          refine ⟨lo, m, by omega, by omega, rfl, rfl, HA.out, fun i h3 h4 => ?_, by simp⟩
          rcases Nat.lt_or_ge m i with h' | h'
          · have := inc_lt HI.out m i h' (by have := HL.out; omega); have := HT.out; omega
          · obtain rfl : i = m := by omega
            exact HT.out
        case measure => simp [intOf] <;> omega
    · obtain rfl : lo = hi := by omega
      have hp : Hid (Place (at1 l) n x lo) := Lib.hid ⟨h2, HA.out, HB.out⟩
      by_cases hln : lo < n
      · obtain ⟨b, o, rfl, hbb, hc⟩ := HR.out.i (i := lo) (by have := HL.out; omega)
        have j1 : (0 : Int) ≤ (lo : Int) := by omega
        have j2 : (lo : Int) < (n : Int) := by omega
        have j3 : decide ((lo : Int) < (n : Int)) = true := decide_eq_true j2
        by_cases ht : at1 l lo = x
        · have e1 : (at1 l lo == x) = true := by simpa using ht
          have HD : Hid (true = decide (lo < n ∧ at1 l lo = x)) := Lib.hid (decide_eq_true ⟨hln, ht⟩).symm
          clear ht
          go_wp2_with (go_at_call 37; with_reducible refine (key2 _ _).mono ?_; rintro e w1 ⟨rfl, rfl⟩)
          all_goals (try (exfalso; omega))
          go_ret2
          exact ⟨⟨lo, ret_ib HD.out, hp.out⟩, rfl⟩
        · have e1 : (at1 l lo == x) = false := by simpa using ht
          have HD : Hid (false = decide (lo < n ∧ at1 l lo = x)) := Lib.hid (decide_eq_false (fun h => ht h.2)).symm
          clear ht
          go_wp2_with (go_at_call 37; with_reducible refine (key2 _ _).mono ?_; rintro e w1 ⟨rfl, rfl⟩)
          all_goals (try (exfalso; omega))
          go_ret2
          exact ⟨⟨lo, ret_ib HD.out, hp.out⟩, rfl⟩
      · have HD : Hid (false = decide (lo < n ∧ at1 l lo = x)) := Lib.hid (decide_eq_false (fun h => hln h.1)).symm
        go_wp2_with fail
        all_goals (try (exfalso; omega))
        go_ret2
        exact ⟨⟨lo, ret_ib HD.out, hp.out⟩, rfl⟩
set_option maxRecDepth 100000 in
set_option maxHeartbeats 2000000 in
theorem find_tr (A : Option Addr) (n c : Nat) (l : List (Int × Int)) (x : Int) (w : World) (hn : n ≤ 100) (hl : l.length = n) (hR : RL w A (cT l)) (hI : IncT l) :
    Calls Try.prog 31 #[.slice A n c, .func (.func 36) #[] #[], .int .i64 x] w fun e w' => (∃ p : Nat, e = .returned (.tuple #[.int .i64 (p : Int), .bool (decide (p < n ∧ (at2 l p).1 = x))]) ∧ Place (fun i => (at2 l i).1) n x p) ∧ Below w.heap.size w w' := by
  have HR := Lib.hid hR
  have HL := Lib.hid hl
  have HI := Lib.hid hI
  clear hR hl hI
  go_enter Try.func31, Try.ntmps31
  go_wp2_with fail
  go_loopw [8, 9] (fun a e wr => ∃ lo hi : Nat, lo ≤ hi ∧ hi ≤ n ∧ a = .int .i64 lo ∧ e = .int .i64 hi ∧ (∀ i, i < lo → (at2 l i).1 < x) ∧ (∀ i, hi ≤ i → i < n → x ≤ (at2 l i).1) ∧ Below w.heap.size w wr) (fun a e _ => (intOf e - intOf a).toNat)
  case atStart => exact ⟨0, n, Nat.zero_le _, Nat.le_refl _, rfl, rfl, fun i hi => by omega, fun i h1 h2 => by omega, Below.refl _ _⟩
  case round =>
    obtain ⟨lo, hi, h1, h2, rfl, rfl, ha, hb, hbw⟩ := hrel
    have HBW := Lib.hid hbw
    clear hbw
    have HA := Lib.hid ha
    have HB := Lib.hid hb
    clear ha hb
    by_cases hlt : lo < hi
    · obtain ⟨m, m1, m2, hm⟩ := mid_ok hlt
      obtain ⟨b, o, rfl, hbb, hc, hc2⟩ := (HR.out.keep HBW.out).t (i := m) (by have := HL.out; omega)
      have j1 : (lo : Int) < (hi : Int) := by omega
      have j2 : (0 : Int) ≤ (m : Int) := by omega
      have j3 : (m : Int) < (n : Int) := by omega
      by_cases ht : (at2 l m).1 < x
      · have e1 : decide ((at2 l m).1 < x) = true := decide_eq_true ht
        have HT := Lib.hid ht
        clear ht
        go_upto_region 4 with (fail)
        (try rw [hm])
        clear hm
        go_wp2_with (go_at_call 36; with_reducible refine (key1 _ _ _).mono ?_; rintro e w1 ⟨rfl, h9⟩)
        go_roundw
        case rel =>
          refine ⟨m + 1, hi, by omega, h2, by go_num, rfl, fun i hi' => ?_, HB.out, bel_step HBW.out h9⟩
          rcases Nat.lt_or_ge i m with h' | h'
          · have := incT_lt HI.out i m h' (by have := HL.out; omega); have := HT.out; omega
          · obtain rfl : i = m := by omega
            exact HT.out
        case measure => simp [intOf] <;> omega
      · have e1 : decide ((at2 l m).1 < x) = false := decide_eq_false ht
        have HT := Lib.hid (show x ≤ (at2 l m).1 by omega)
        clear ht
        go_upto_region 4 with (fail)
        (try rw [hm])
        clear hm
        go_wp2_with (go_at_call 36; with_reducible refine (key1 _ _ _).mono ?_; rintro e w1 ⟨rfl, h9⟩)
        go_roundw
        case rel =>
          refine ⟨lo, m, by omega, by omega, rfl, rfl, HA.out, fun i h3 h4 => ?_, bel_step HBW.out h9⟩
          rcases Nat.lt_or_ge m i with h' | h'
          · have := incT_lt HI.out m i h' (by have := HL.out; omega); have := HT.out; omega
          · obtain rfl : i = m := by omega
            exact HT.out
        case measure => simp [intOf] <;> omega
    · obtain rfl : lo = hi := by omega
      have hp : Hid (Place (fun i => (at2 l i).1) n x lo) := Lib.hid ⟨h2, HA.out, HB.out⟩
      by_cases hln : lo < n
      · obtain ⟨b, o, rfl, hbb, hc, hc2⟩ := (HR.out.keep HBW.out).t (i := lo) (by have := HL.out; omega)
        have j1 : (0 : Int) ≤ (lo : Int) := by omega
        have j2 : (lo : Int) < (n : Int) := by omega
        have j3 : decide ((lo : Int) < (n : Int)) = true := decide_eq_true j2
        by_cases ht : (at2 l lo).1 = x
        · have e1 : ((at2 l lo).1 == x) = true := by simpa using ht
          have HD : Hid (true = decide (lo < n ∧ (at2 l lo).1 = x)) := Lib.hid (decide_eq_true ⟨hln, ht⟩).symm
          clear ht
          go_wp2_with (go_at_call 36; with_reducible refine (key1 _ _ _).mono ?_; rintro e w1 ⟨rfl, h9⟩)
          all_goals (try (exfalso; omega))
          go_ret2
          exact ⟨⟨lo, ret_ib HD.out, hp.out⟩, bel_step HBW.out h9⟩
        · have e1 : ((at2 l lo).1 == x) = false := by simpa using ht
          have HD : Hid (false = decide (lo < n ∧ (at2 l lo).1 = x)) := Lib.hid (decide_eq_false (fun h => ht h.2)).symm
          clear ht
          go_wp2_with (go_at_call 36; with_reducible refine (key1 _ _ _).mono ?_; rintro e w1 ⟨rfl, h9⟩)
          all_goals (try (exfalso; omega))
          go_ret2
          exact ⟨⟨lo, ret_ib HD.out, hp.out⟩, bel_step HBW.out h9⟩
      · have HD : Hid (false = decide (lo < n ∧ (at2 l lo).1 = x)) := Lib.hid (decide_eq_false (fun h => hln h.1)).symm
        go_wp2_with fail
        all_goals (try (exfalso; omega))
        go_ret2
        exact ⟨⟨lo, ret_ib HD.out, hp.out⟩, HBW.out⟩
end Go.Proofs.Yteeohndgkfilaaa
