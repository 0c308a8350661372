/-
  THE WALKS OF THE LAWS over package meter, second part: MeterBackwards, MeterSwaps, MeterHours.
-/
import Derived.Test.YtgbmbpllfjpdmaaTicks
namespace Go.Proofs.Ytgbmbpllfjpdmaa
open Go.RowKit
set_option linter.unusedVariables false

def useB (s r : Int) (n : Nat) : Bool := vM s r && (decide (-500000000000000 < r) && (decide (r < 500000000000000) && decide (n ≤ 500)))
theorem useB_iff {s r : Int} {n : Nat} : useB s r n = true ↔ (0 ≤ s ∧ s ≤ 1000000) ∧ (-500000000000000 < r ∧ r < 500000000000000) ∧ n ≤ 500 := by
  simp [useB, vM]; omega
theorem MB.set2 {w : World} {b : Nat} {s r : Int} {k k' : Bool} (h : MB w b s r k) : MB (w.setCell ⟨b, 2, none⟩ (.bool k')) b s r k' := by
  unfold MB at *
  simp [World.setCell, Array.getElem?_modify, h]

set_option maxHeartbeats 1000000 in
theorem usable_v (s r : Int) (k : Bool) (A : Option Addr) (n c : Nat) (w : World) (hn : n ≤ 9223372036854775807) (hv : vM s r = false) :
    Calls Try.prog 16 #[.agg #[.int .i64 s, .int .i64 r, .bool k], .slice A n c] w fun e w' => e = .returned (.bool (useB s r n)) ∧ Below w.heap.size w w' := by
  have hr : Hid (false = useB s r n) := by show _ = _; simp [useB, hv]
  go_enter Try.func16, Try.ntmps16
  go_wp2_with fail
  refine (refValid s r k _).mono ?_
  rintro e w1 ⟨rfl, hb⟩
  have ma := (MB.new w s r k).keep hb
  have h := bel_step (bel_alloc (Below.refl w.heap.size w) _) hb
  clear hb
  rw [hv]
  obtain ⟨a0, a1, a2, a3, a4⟩ := ma.get
  go_wp2
  go_ret
  exact ⟨ret_bool hr.out, h⟩
set_option maxHeartbeats 1000000 in
theorem usable_l (s r : Int) (k : Bool) (A : Option Addr) (n c : Nat) (w : World) (hn : n ≤ 9223372036854775807) (hv : vM s r = true) (hl : ¬ -500000000000000 < r) :
    Calls Try.prog 16 #[.agg #[.int .i64 s, .int .i64 r, .bool k], .slice A n c] w fun e w' => e = .returned (.bool (useB s r n)) ∧ Below w.heap.size w w' := by
  have hr : Hid (false = useB s r n) := by show _ = _; simp [useB, hl]
  have t1 : decide (-500000000000000 < r) = false := by simpa using hl
  go_enter Try.func16, Try.ntmps16
  go_wp2_with fail
  refine (refValid s r k _).mono ?_
  rintro e w1 ⟨rfl, hb⟩
  have ma := (MB.new w s r k).keep hb
  have h := bel_step (bel_alloc (Below.refl w.heap.size w) _) hb
  clear hb
  rw [hv]
  obtain ⟨a0, a1, a2, a3, a4⟩ := ma.get
  go_wp2
  go_ret
  exact ⟨ret_bool hr.out, h⟩
set_option maxHeartbeats 1000000 in
theorem usable_u (s r : Int) (k : Bool) (A : Option Addr) (n c : Nat) (w : World) (hn : n ≤ 9223372036854775807) (hv : vM s r = true) (hl : -500000000000000 < r) (hu : ¬ r < 500000000000000) :
    Calls Try.prog 16 #[.agg #[.int .i64 s, .int .i64 r, .bool k], .slice A n c] w fun e w' => e = .returned (.bool (useB s r n)) ∧ Below w.heap.size w w' := by
  have hr : Hid (false = useB s r n) := by show _ = _; simp [useB, hu]
  have t1 : decide (-500000000000000 < r) = true := by simpa using hl
  have t2 : decide (r < 500000000000000) = false := by simpa using hu
  go_enter Try.func16, Try.ntmps16
  go_wp2_with fail
  refine (refValid s r k _).mono ?_
  rintro e w1 ⟨rfl, hb⟩
  have ma := (MB.new w s r k).keep hb
  have h := bel_step (bel_alloc (Below.refl w.heap.size w) _) hb
  clear hb
  rw [hv]
  obtain ⟨a0, a1, a2, a3, a4⟩ := ma.get
  go_wp2
  go_ret
  exact ⟨ret_bool hr.out, h⟩
set_option maxHeartbeats 1000000 in
theorem usable_n (s r : Int) (k : Bool) (A : Option Addr) (n c : Nat) (w : World) (hn : n ≤ 9223372036854775807) (hv : vM s r = true) (hl : -500000000000000 < r) (hu : r < 500000000000000) :
    Calls Try.prog 16 #[.agg #[.int .i64 s, .int .i64 r, .bool k], .slice A n c] w fun e w' => e = .returned (.bool (useB s r n)) ∧ Below w.heap.size w w' := by
  have hr : Hid (decide ((n : Int) ≤ 500) = useB s r n) := by show _ = _; rw [show decide ((n : Int) ≤ 500) = decide (n ≤ 500) from decide_eq_decide.2 (by omega)]; simp [useB, hv, hl, hu]
  have t1 : decide (-500000000000000 < r) = true := by simpa using hl
  have t2 : decide (r < 500000000000000) = true := by simpa using hu
  go_enter Try.func16, Try.ntmps16
  go_wp2_with fail
  refine (refValid s r k _).mono ?_
  rintro e w1 ⟨rfl, hb⟩
  have ma := (MB.new w s r k).keep hb
  have h := bel_step (bel_alloc (Below.refl w.heap.size w) _) hb
  clear hb
  rw [hv]
  obtain ⟨a0, a1, a2, a3, a4⟩ := ma.get
  go_wp2
  go_ret
  exact ⟨ret_bool hr.out, h⟩
theorem usable_any (s r : Int) (k : Bool) (A : Option Addr) (n c : Nat) (w : World) (hn : n ≤ 9223372036854775807) :
    Calls Try.prog 16 #[.agg #[.int .i64 s, .int .i64 r, .bool k], .slice A n c] w fun e w' => e = .returned (.bool (useB s r n)) ∧ Below w.heap.size w w' := by
  cases hv : vM s r
  · exact usable_v s r k A n c w hn hv
  · by_cases hl : -500000000000000 < r
    · by_cases hu : r < 500000000000000
      · exact usable_n s r k A n c w hn hv hl hu
      · exact usable_u s r k A n c w hn hv hl hu
    · exact usable_l s r k A n c w hn hv hl

set_option maxHeartbeats 2000000 in
set_option maxRecDepth 100000 in
theorem back_no (s r : Int) (k : Bool) (A : Option Addr) (n c : Nat) (f g : Nat → Int) (w : World) (hT : TK w A n f g) (hn : n ≤ 9223372036854775807) (hu : useB s r n = false) :
    Calls Try.prog 5 #[.agg #[.int .i64 s, .int .i64 r, .bool k], .slice A n c] w fun e w' => e = .returned (.bool true) ∧ Below w.heap.size w w' := by
  go_enter Try.func5, Try.ntmps5
  go_wp2_with fail
  refine (head_any _).mono ?_
  rintro e w1 ⟨rfl, hb⟩
  have ma := (MB.new w s r k).keep hb
  have h := bel_step (bel_alloc (Below.refl w.heap.size w) _) hb
  clear hb
  obtain ⟨a0, a1, a2, a3, a4⟩ := ma.get
  obtain ⟨ga0, ga1, ga2⟩ := ma.frz
  go_wp2_with fail
  refine (usable_any s r true A n c _ hn).mono ?_
  rintro e w2 ⟨rfl, hb⟩
  have ma := (ma.set2).keep hb
  have h := bel_step (h.setCell (Nat.le_refl _) _) hb
  clear hb
  clear a0 a1 a2 a3 a4 ga0 ga1 ga2
  rw [hu]
  go_wp2
  go_ret
  exact ⟨rfl, h⟩
set_option maxHeartbeats 2000000 in
set_option maxRecDepth 100000 in
theorem back_zero (s r : Int) (k : Bool) (A : Option Addr) (n c : Nat) (f g : Nat → Int) (w : World) (hT : TK w A n f g) (hn : n ≤ 9223372036854775807) (hu : useB s r n = true) (hz : tsum f g n = 0) :
    Calls Try.prog 5 #[.agg #[.int .i64 s, .int .i64 r, .bool k], .slice A n c] w fun e w' => e = .returned (.bool true) ∧ Below w.heap.size w w' := by
  have ub := useB_iff.1 hu
  have tb := tsum_bd f g n
  have er : reg r true f g n = r - 2300 * tsum f g n := by simp [reg]
  have v1 : vM s r = true := vM_iff.2 ⟨ub.1, by omega⟩
  have v2 : vM s (r - 2300 * tsum f g n) = true := vM_iff.2 ⟨ub.1, by omega⟩
  have t1 : (tsum f g n == 0) = true := by simpa using hz
  have e0 : (r - 2300 * tsum f g n - r) / 3600 = 0 := by rw [hz]; omega
  have HZ := Lib.hid hz
  have ER := Lib.hid er
  clear er hz
  go_enter Try.func5, Try.ntmps5
  go_wp2_with fail
  refine (head_any _).mono ?_
  rintro e w1 ⟨rfl, hb⟩
  have ma := (MB.new w s r k).keep hb
  have h := bel_step (bel_alloc (Below.refl w.heap.size w) _) hb
  clear hb
  obtain ⟨a0, a1, a2, a3, a4⟩ := ma.get
  obtain ⟨ga0, ga1, ga2⟩ := ma.frz
  go_wp2_with fail
  refine (usable_any s r true A n c _ hn).mono ?_
  rintro e w2 ⟨rfl, hb⟩
  have ma := (ma.set2).keep hb
  have h := bel_step (h.setCell (Nat.le_refl _) _) hb
  clear hb
  clear a0 a1 a2 a3 a4 ga0 ga1 ga2
  rw [hu]
  obtain ⟨a0, a1, a2, a3, a4⟩ := ma.get
  go_wp2_with fail
  refine (ticks_ok s r true A n c f g _ (hT.keep h) ub.2.2 ub.1 (by omega)).mono ?_
  rintro e w3 ⟨rfl, hb⟩
  have ma := (ma).keep hb
  have h := bel_step h hb
  clear hb
  clear a0 a1 a2 a3 a4
  rw [ER.out]
  obtain ⟨a0, a1, a2, a3, a4⟩ := ma.get
  go_wp2_with fail
  refine (energy_y s r s (r - 2300 * tsum f g n) true true _ v1 v2 rfl (by omega)).mono ?_
  rintro e w4 ⟨rfl, hb⟩
  have ma := (ma.alloc _).keep hb
  have h := bel_step (bel_alloc h _) hb
  clear hb
  clear a0 a1 a2 a3 a4
  go_wp2
  go_ret
  exact ⟨rfl, h⟩
set_option maxHeartbeats 2000000 in
set_option maxRecDepth 100000 in
theorem back_more (s r : Int) (k : Bool) (A : Option Addr) (n c : Nat) (f g : Nat → Int) (w : World) (hT : TK w A n f g) (hn : n ≤ 9223372036854775807) (hu : useB s r n = true) (hz : 0 < tsum f g n) :
    Calls Try.prog 5 #[.agg #[.int .i64 s, .int .i64 r, .bool k], .slice A n c] w fun e w' => e = .returned (.bool true) ∧ Below w.heap.size w w' := by
  have ub := useB_iff.1 hu
  have tb := tsum_bd f g n
  have er : reg r true f g n = r - 2300 * tsum f g n := by simp [reg]
  have v1 : vM s r = true := vM_iff.2 ⟨ub.1, by omega⟩
  have v2 : vM s (r - 2300 * tsum f g n) = true := vM_iff.2 ⟨ub.1, by omega⟩
  have t1 : (tsum f g n == 0) = false := by simp; omega
  have ER := Lib.hid er
  clear er
  go_enter Try.func5, Try.ntmps5
  go_wp2_with fail
  refine (head_any _).mono ?_
  rintro e w1 ⟨rfl, hb⟩
  have ma := (MB.new w s r k).keep hb
  have h := bel_step (bel_alloc (Below.refl w.heap.size w) _) hb
  clear hb
  obtain ⟨a0, a1, a2, a3, a4⟩ := ma.get
  obtain ⟨ga0, ga1, ga2⟩ := ma.frz
  go_wp2_with fail
  refine (usable_any s r true A n c _ hn).mono ?_
  rintro e w2 ⟨rfl, hb⟩
  have ma := (ma.set2).keep hb
  have h := bel_step (h.setCell (Nat.le_refl _) _) hb
  clear hb
  clear a0 a1 a2 a3 a4 ga0 ga1 ga2
  rw [hu]
  obtain ⟨a0, a1, a2, a3, a4⟩ := ma.get
  go_wp2_with fail
  refine (ticks_ok s r true A n c f g _ (hT.keep h) ub.2.2 ub.1 (by omega)).mono ?_
  rintro e w3 ⟨rfl, hb⟩
  have ma := (ma).keep hb
  have h := bel_step h hb
  clear hb
  clear a0 a1 a2 a3 a4
  rw [ER.out]
  obtain ⟨a0, a1, a2, a3, a4⟩ := ma.get
  go_wp2_with fail
  refine (energy_l s r s (r - 2300 * tsum f g n) true true _ v1 v2 rfl (by omega)).mono ?_
  rintro e w4 ⟨rfl, hb⟩
  have ma := (ma.alloc _).keep hb
  have h := bel_step (bel_alloc h _) hb
  clear hb
  clear a0 a1 a2 a3 a4
  go_wp2
  go_ret
  exact ⟨rfl, h⟩
theorem walk_backwards (s r : Int) (k : Bool) (A : Option Addr) (n c : Nat) (f g : Nat → Int) (w : World) (hT : TK w A n f g) (hn : n ≤ 9223372036854775807) :
    Calls Try.prog 5 #[.agg #[.int .i64 s, .int .i64 r, .bool k], .slice A n c] w fun e w' => e = .returned (.bool true) ∧ Below w.heap.size w w' := by
  cases hu : useB s r n
  · exact back_no s r k A n c f g w hT hn hu
  · by_cases hz : tsum f g n = 0
    · exact back_zero s r k A n c f g w hT hn hu hz
    · exact back_more s r k A n c f g w hT hn hu (by have := tsum_bd f g n; omega)

set_option maxHeartbeats 2000000 in
set_option maxRecDepth 100000 in
theorem swaps_err (s r n m : Int) (k : Bool) (A : Option Addr) (l c : Nat) (f g : Nat → Int) (w : World) (hT : TK w A l f g) (hl : l ≤ 9223372036854775807) (he : sE s r n m ≠ 0) :
    Calls Try.prog 7 #[.agg #[.int .i64 s, .int .i64 r, .bool k], .int .i64 n, .int .i64 m, .slice A l c] w fun e w' => e = .returned (.bool true) ∧ Below w.heap.size w w' := by
  have t1 : (sE s r n m != 0) = true := by simpa using he
  go_enter Try.func7, Try.ntmps7
  go_wp2_with fail
  refine (head_any _).mono ?_
  rintro e w1 ⟨rfl, hb⟩
  have ma := (MB.new w s r k).keep hb
  have h := bel_step (bel_alloc (Below.refl w.heap.size w) _) hb
  clear hb
  obtain ⟨a0, a1, a2, a3, a4⟩ := ma.get
  go_wp2_with fail
  refine (swap_any s r n m k _).mono ?_
  rintro e w2 ⟨rfl, hb⟩
  have ma := (ma).keep hb
  have h := bel_step h hb
  clear hb
  clear a0 a1 a2 a3 a4
  go_wp2
  go_ret
  exact ⟨rfl, bel_alloc h _⟩
set_option maxHeartbeats 2000000 in
set_option maxRecDepth 100000 in
theorem swaps_no (s r n m : Int) (k : Bool) (A : Option Addr) (l c : Nat) (f g : Nat → Int) (w : World) (hT : TK w A l f g) (hl : l ≤ 9223372036854775807) (v1 : vM s r = true) (v2 : vM n m = true) (hs : s ≠ n) (hu : useB n m l = false) :
    Calls Try.prog 7 #[.agg #[.int .i64 s, .int .i64 r, .bool k], .int .i64 n, .int .i64 m, .slice A l c] w fun e w' => e = .returned (.bool true) ∧ Below w.heap.size w w' := by
  go_enter Try.func7, Try.ntmps7
  go_wp2_with fail
  refine (head_any _).mono ?_
  rintro e w1 ⟨rfl, hb⟩
  have ma := (MB.new w s r k).keep hb
  have h := bel_step (bel_alloc (Below.refl w.heap.size w) _) hb
  clear hb
  obtain ⟨a0, a1, a2, a3, a4⟩ := ma.get
  go_wp2_with fail
  refine (swap_y s r n m k _ v1 v2 hs).mono ?_
  rintro e w2 ⟨rfl, hb⟩
  have ma := (ma).keep hb
  have h := bel_step h hb
  clear hb
  clear a0 a1 a2 a3 a4
  go_wp2_with fail
  refine (usable_any n m false A l c _ hl).mono ?_
  rintro e w3 ⟨rfl, hb⟩
  have ma := (ma.alloc _).keep hb
  have mn := (MB.new w2 n m false).keep hb
  have h := bel_step (bel_alloc h _) hb
  clear hb
  rw [hu]
  go_wp2
  go_ret
  exact ⟨rfl, h⟩
set_option maxHeartbeats 2000000 in
set_option maxRecDepth 100000 in
theorem swaps_yes (s r n m : Int) (k : Bool) (A : Option Addr) (l c : Nat) (f g : Nat → Int) (w : World) (hT : TK w A l f g) (hl : l ≤ 9223372036854775807) (v1 : vM s r = true) (v2 : vM n m = true) (hs : s ≠ n) (hu : useB n m l = true) :
    Calls Try.prog 7 #[.agg #[.int .i64 s, .int .i64 r, .bool k], .int .i64 n, .int .i64 m, .slice A l c] w fun e w' => e = .returned (.bool true) ∧ Below w.heap.size w w' := by
  have ub := useB_iff.1 hu
  have tb := tsum_bd f g l
  have ER : Hid (reg m false f g l = m + 2300 * tsum f g l) := by show _ = _; simp [reg]
  have v3 : vM n (m + 2300 * tsum f g l) = true := vM_iff.2 ⟨ub.1, by omega⟩
  go_enter Try.func7, Try.ntmps7
  go_wp2_with fail
  refine (head_any _).mono ?_
  rintro e w1 ⟨rfl, hb⟩
  have ma := (MB.new w s r k).keep hb
  have h := bel_step (bel_alloc (Below.refl w.heap.size w) _) hb
  clear hb
  obtain ⟨a0, a1, a2, a3, a4⟩ := ma.get
  go_wp2_with fail
  refine (swap_y s r n m k _ v1 v2 hs).mono ?_
  rintro e w2 ⟨rfl, hb⟩
  have ma := (ma).keep hb
  have h := bel_step h hb
  clear hb
  clear a0 a1 a2 a3 a4
  go_wp2_with fail
  refine (usable_any n m false A l c _ hl).mono ?_
  rintro e w3 ⟨rfl, hb⟩
  have ma := (ma.alloc _).keep hb
  have mn := (MB.new w2 n m false).keep hb
  have h := bel_step (bel_alloc h _) hb
  clear hb
  rw [hu]
  obtain ⟨n0, n1, n2, n3, n4⟩ := mn.get
  go_wp2_with fail
  refine (ticks_ok n m false A l c f g _ (hT.keep h) ub.2.2 ub.1 (by omega)).mono ?_
  rintro e w4 ⟨rfl, hb⟩
  have ma := (ma).keep hb
  have mn := (mn).keep hb
  have h := bel_step h hb
  clear hb
  clear n0 n1 n2 n3 n4
  rw [ER.out]
  obtain ⟨a0, a1, a2, a3, a4⟩ := ma.get
  go_wp2_with fail
  refine (energy_d s r n (m + 2300 * tsum f g l) k false _ v1 v3 hs).mono ?_
  rintro e w5 ⟨rfl, hb⟩
  have ma := (ma.alloc _).keep hb
  have mn := (mn.alloc _).keep hb
  have mx := (MB.new w4 n (m + 2300 * tsum f g l) false).keep hb
  have h := bel_step (bel_alloc h _) hb
  clear hb
  clear a0 a1 a2 a3 a4
  obtain ⟨a0, a1, a2, a3, a4⟩ := ma.get
  obtain ⟨x0, x1, x2, x3, x4⟩ := mx.get
  go_wp2_with fail
  refine (energy_d n (m + 2300 * tsum f g l) s r false k _ v3 v1 (Ne.symm hs)).mono ?_
  rintro e w6 ⟨rfl, hb⟩
  have ma := (ma).keep hb
  have mn := (mn).keep hb
  have mx := (mx).keep hb
  have h := bel_step h hb
  clear hb
  clear a0 a1 a2 a3 a4 x0 x1 x2 x3 x4
  obtain ⟨n0, n1, n2, n3, n4⟩ := mn.get
  obtain ⟨x0, x1, x2, x3, x4⟩ := mx.get
  go_wp2_with fail
  refine (energy_y n m n (m + 2300 * tsum f g l) false false _ v2 v3 rfl (by omega)).mono ?_
  rintro e w7 ⟨rfl, hb⟩
  have mn := (mn).keep hb
  have mx := (mx).keep hb
  have h := bel_step h hb
  clear hb
  clear n0 n1 n2 n3 n4 x0 x1 x2 x3 x4
  obtain ⟨n0, n1, n2, n3, n4⟩ := mn.get
  go_wp2
  go_ret
  exact ⟨rfl, h⟩
theorem walk_swaps (s r n m : Int) (k : Bool) (A : Option Addr) (l c : Nat) (f g : Nat → Int) (w : World) (hT : TK w A l f g) (hl : l ≤ 9223372036854775807) :
    Calls Try.prog 7 #[.agg #[.int .i64 s, .int .i64 r, .bool k], .int .i64 n, .int .i64 m, .slice A l c] w fun e w' => e = .returned (.bool true) ∧ Below w.heap.size w w' := by
  by_cases he : sE s r n m = 0
  · have hh : vM s r = true ∧ vM n m = true ∧ s ≠ n := by
      unfold sE at he
      split at he
      · rename_i hv
        split at he
        · omega
        · rename_i hs
          simp at hv
          exact ⟨hv.1, hv.2, hs⟩
      · omega
    cases hu : useB n m l
    · exact swaps_no s r n m k A l c f g w hT hl hh.1 hh.2.1 hh.2.2 hu
    · exact swaps_yes s r n m k A l c f g w hT hl hh.1 hh.2.1 hh.2.2 hu
  · exact swaps_err s r n m k A l c f g w hT hl he

end Go.Proofs.Ytgbmbpllfjpdmaa
