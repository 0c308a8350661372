/-
  THE WALKS OF THE LAWS over package meter, third part: MeterHours, MeterParts.
-/
import Derived.Test.YtgbmbpllfjpdmaaLawsb
namespace Go.Proofs.Ytgbmbpllfjpdmaa
open Go.RowKit
set_option linter.unusedVariables false

theorem hours_eq (r a p n : Int) : (r + 2300 * a * p * (360 * n) - r) / 3600 = 230 * a * p * n := by
  have e : r + 2300 * a * p * (360 * n) - r = 3600 * (230 * a * p * n) := by grind
  rw [e]
  exact Int.mul_ediv_cancel_left _ (by omega)
theorem hours_bd {a p n : Int} (ha : 0 ≤ a ∧ a ≤ 80) (hp : 0 ≤ p ∧ p ≤ 3) (hn : 0 ≤ n ∧ n ≤ 3) : (0 ≤ 230 * a * p ∧ 230 * a * p ≤ 55200) ∧ (0 ≤ 230 * a * p * n ∧ 230 * a * p * n ≤ 165600) := by
  have h1 : 0 ≤ a * p := Int.mul_nonneg ha.1 hp.1
  have h2 : a * p ≤ 80 * 3 := Int.mul_le_mul ha.2 hp.2 hp.1 (by omega)
  have e : 230 * a * p = 230 * (a * p) := by rw [Int.mul_assoc]
  have h3 : 0 ≤ 230 * a * p ∧ 230 * a * p ≤ 55200 := by omega
  have h4 : 230 * a * p * n ≤ 55200 * 3 := Int.mul_le_mul h3.2 hn.2 hn.1 (by omega)
  exact ⟨h3, Int.mul_nonneg h3.1 hn.1, h4⟩
theorem run_bd {x : Int} {j : Nat} (hx : 0 ≤ x ∧ x ≤ 552000) (hj : j ≤ 1080) : 0 ≤ x * j ∧ x * j ≤ 596160000 := by
  have h : x * (j : Int) ≤ 552000 * 1080 := Int.mul_le_mul hx.2 (by omega) (by omega) (by omega)
  exact ⟨Int.mul_nonneg hx.1 (by omega), h⟩

set_option maxHeartbeats 2000000 in
set_option maxRecDepth 100000 in
theorem hours_no (s r x y z : Int) (k : Bool) (w : World) (x0 : 0 ≤ x) (x1 : x ≤ 255) (y0 : 0 ≤ y) (y1 : y ≤ 255) (z0 : 0 ≤ z) (z1 : z ≤ 255) (hu : useB s r 0 = false) :
    Calls Try.prog 8 #[.agg #[.int .i64 s, .int .i64 r, .bool k], .int .u8 x, .int .u8 y, .int .u8 z] w fun e w' => e = .returned (.bool true) ∧ Below w.heap.size w w' := by
  go_enter Try.func8, Try.ntmps8
  go_wp2_with fail
  refine (head_any _).mono ?_
  rintro e w1 ⟨rfl, hb⟩
  have ma := (MB.new w s r k).keep hb
  have h := bel_step (bel_alloc (Below.refl w.heap.size w) _) hb
  clear hb
  obtain ⟨a0, a1, a2, a3, a4⟩ := ma.get
  obtain ⟨ga0, ga1, ga2⟩ := ma.frz
  go_wp2_with fail
  refine (usable_any s r false none 0 0 _ (by omega)).mono ?_
  rintro e w2 ⟨rfl, hb⟩
  have ma := (ma.set2).keep hb
  have h := bel_step (h.setCell (Nat.le_refl _) _) hb
  clear hb
  clear a0 a1 a2 a3 a4 ga0 ga1 ga2
  rw [hu]
  go_wp2
  go_ret
  exact ⟨rfl, h⟩
set_option maxHeartbeats 2000000 in
set_option maxRecDepth 100000 in
theorem hours_yes (s r x y z : Int) (k : Bool) (w : World) (x0 : 0 ≤ x) (x1 : x ≤ 255) (y0 : 0 ≤ y) (y1 : y ≤ 255) (z0 : 0 ≤ z) (z1 : z ≤ 255) (hu : useB s r 0 = true) :
    Calls Try.prog 8 #[.agg #[.int .i64 s, .int .i64 r, .bool k], .int .u8 x, .int .u8 y, .int .u8 z] w fun e w' => e = .returned (.bool true) ∧ Below w.heap.size w w' := by
  have ub := useB_iff.1 hu
  have hX := prod_bd (a := x % 81) (p := y % 4) (by omega) (by omega)
  have hB := hours_bd (a := x % 81) (p := y % 4) (n := z % 4) (by omega) (by omega) (by omega)
  have hB1 := hB.1
  have hB2 := hB.2
  have v1 : vM s r = true := vM_iff.2 ⟨ub.1, by omega⟩
  go_enter Try.func8, Try.ntmps8
  go_wp2_with fail
  refine (head_any _).mono ?_
  rintro e w1 ⟨rfl, hb⟩
  have ma := (MB.new w s r k).keep hb
  have h := bel_step (bel_alloc (Below.refl w.heap.size w) _) hb
  clear hb
  obtain ⟨a0, a1, a2, a3, a4⟩ := ma.get
  obtain ⟨ga0, ga1, ga2⟩ := ma.frz
  go_wp2_with fail
  refine (usable_any s r false none 0 0 _ (by omega)).mono ?_
  rintro e w2 ⟨rfl, hb⟩
  have ma := (ma.set2).keep hb
  have h := bel_step (h.setCell (Nat.le_refl _) _) hb
  clear hb
  clear a0 a1 a2 a3 a4 ga0 ga1 ga2
  rw [hu]
  obtain ⟨a0, a1, a2, a3, a4⟩ := ma.get
  go_wp2
  have mn := MB.new w2 s r false
  have ma := ma.alloc (.cells #[.int .i64 s, .int .i64 r, .bool false] 23)
  have h := bel_alloc h (.cells #[.int .i64 s, .int .i64 r, .bool false] 23)
  have hlt := a3
  clear a0 a1 a2 a3 a4
  go_loopw [36] (fun i wr => ∃ j : Nat, (j : Int) ≤ 360 * (z % 4) ∧ i = .int .i64 j ∧ MB wr w.heap.size s r false ∧ MB wr w2.heap.size s (r + 2300 * (x % 81) * (y % 4) * j) false ∧ Below w.heap.size w wr) (fun i _ => (360 * (z % 4) - intOf i).toNat)
  case atStart => exact ⟨0, by omega, rfl, ma, by simpa using mn, h⟩
  case round =>
    obtain ⟨j, hj, rfl, ma, mn, h⟩ := hrel
    have hj' : j ≤ 1080 := by omega
    have hrb := run_bd hX hj'
    by_cases hlt2 : (j : Int) < 360 * (z % 4)
    · have HN : Hid (nR (r + 2300 * (x % 81) * (y % 4) * j) (x % 81) (y % 4) false = r + 2300 * (x % 81) * (y % 4) * ((j + 1 : Nat) : Int)) := by
        show _ = _
        have e : 2300 * (x % 81) * (y % 4) * ((j + 1 : Nat) : Int) = 2300 * (x % 81) * (y % 4) * (j : Int) + 2300 * (x % 81) * (y % 4) := by
          rw [Int.natCast_add, Int.mul_add]; simp
        rw [e]
        simp [nR]
        omega
      obtain ⟨n0, n1, n2, n3, n4⟩ := mn.get
      go_wp2_with fail
      refine (count_ok s (r + 2300 * (x % 81) * (y % 4) * j) (x % 81) (y % 4) false _ ub.1 (by omega) (by omega) (by omega)).mono ?_
      rintro e w3 ⟨rfl, hb⟩
      have ma := ma.keep hb
      have mn := mn.keep hb
      have h := bel_step h hb
      rw [HN.out]
      clear hb n0 n1 n2 n3 n4
      obtain ⟨n0, n1, n2, n3, n4⟩ := mn.get
      obtain ⟨gn0, gn1, gn2⟩ := mn.frz
      go_wp2
      go_roundw
      case rel => exact ⟨j + 1, by omega, by go_num, (((ma.far (by simp; omega) _).far (by simp; omega) _).far (by simp; omega) _).alloc _, mn.set.alloc _, bel_alloc (((h.setCell (by simp; omega) _).setCell (by simp; omega) _).setCell (by simp; omega) _) _⟩
      case measure => simp [intOf]; omega
    · have hje : (j : Int) = 360 * (z % 4) := by omega
      have HE : Hid ((r + 2300 * (x % 81) * (y % 4) * j - r) / 3600 = 230 * (x % 81) * (y % 4) * (z % 4)) := by
        show _ = _
        rw [hje]
        exact hours_eq r (x % 81) (y % 4) (z % 4)
      have v2 : vM s (r + 2300 * (x % 81) * (y % 4) * j) = true := vM_iff.2 ⟨ub.1, by omega⟩
      clear hje
      obtain ⟨a0, a1, a2, a3, a4⟩ := ma.get
      obtain ⟨n0, n1, n2, n3, n4⟩ := mn.get
      go_wp2_with fail
      refine (energy_y s r s (r + 2300 * (x % 81) * (y % 4) * j) false false _ v1 v2 rfl (by omega)).mono ?_
      rintro e w3 ⟨rfl, hb⟩
      have h := bel_step h hb
      rw [HE.out]
      go_wp2
      go_ret
      exact ⟨rfl, h⟩
theorem walk_hours (s r x y z : Int) (k : Bool) (w : World) (x0 : 0 ≤ x) (x1 : x ≤ 255) (y0 : 0 ≤ y) (y1 : y ≤ 255) (z0 : 0 ≤ z) (z1 : z ≤ 255) :
    Calls Try.prog 8 #[.agg #[.int .i64 s, .int .i64 r, .bool k], .int .u8 x, .int .u8 y, .int .u8 z] w fun e w' => e = .returned (.bool true) ∧ Below w.heap.size w w' := by
  cases hu : useB s r 0
  · exact hours_no s r x y z k w x0 x1 y0 y1 z0 z1 hu
  · exact hours_yes s r x y z k w x0 x1 y0 y1 z0 z1 hu

end Go.Proofs.Ytgbmbpllfjpdmaa
