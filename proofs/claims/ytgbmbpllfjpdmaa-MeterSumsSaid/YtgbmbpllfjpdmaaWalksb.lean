/-
  THE WALKS over package meter and its reference: Swap, Energy, and the reference's four functions.
-/
import Derived.Test.YtgbmbpllfjpdmaaWalks
import Derived.StillTailTactics
import Derived.IntWalk
namespace Go.Proofs.Ytgbmbpllfjpdmaa
open Go.RowKit
set_option linter.unusedVariables false

theorem box3k {w w1 : World} {A B C : Array Value} {t u v : TypeId} (hb : Below (((w.alloc (.cells A t)).alloc (.cells B u)).alloc (.cells C v)).heap.size (((w.alloc (.cells A t)).alloc (.cells B u)).alloc (.cells C v)) w1) :
    w1.heap[w.heap.size]? = some (.cells A t) ∧ w1.heap[w.heap.size + 1]? = some (.cells B u) ∧ w1.heap[w.heap.size + 1 + 1]? = some (.cells C v) ∧ w.heap.size + 1 + 1 < w1.heap.size ∧ Below w.heap.size w w1 := by
  obtain ⟨k3, hz, h⟩ := box3 hb
  have e1 : (((w.alloc (.cells A t)).alloc (.cells B u)).alloc (.cells C v)).heap[w.heap.size]? = some (.cells A t) :=
    (Below.heap_alloc _ _ _ (by simp only [World.size_alloc]; omega)).trans ((Below.heap_alloc _ _ _ (by simp)).trans (heap_alloc_new w _))
  have e2 : (((w.alloc (.cells A t)).alloc (.cells B u)).alloc (.cells C v)).heap[w.heap.size + 1]? = some (.cells B u) :=
    (Below.heap_alloc _ _ _ (by simp)).trans (by have := heap_alloc_new (w.alloc (.cells A t)) (.cells B u); simpa using this)
  exact ⟨(hb.block _ (by simp only [World.size_alloc]; omega)).trans e1, (hb.block _ (by simp only [World.size_alloc]; omega)).trans e2, k3, hz, h⟩
theorem ret_m2 {s s' r r' e e' : Int} {k k' : Bool} (h : s = s' ∧ r = r' ∧ k = k' ∧ e = e') {w w' : World} (hb : Below w.heap.size w w') {v : Ending}
    (hv : v = .returned (.tuple #[.agg #[.int .i64 s, .int .i64 r, .bool k], .int .i64 e])) : v = .returned (.tuple #[.agg #[.int .i64 s', .int .i64 r', .bool k'], .int .i64 e']) ∧ Below w.heap.size w w' := ⟨hv.trans (ret_meter h), hb⟩

def sE (s r n m : Int) : Int := if (vM s r && vM n m) = true then (if s = n then 5 else 0) else 1
def eE (s r n m : Int) : Int := if (vM s r && vM n m) = true then (if s = n then (if m < r then 11 else 0) else 4) else 1

set_option maxHeartbeats 400000 in
theorem refValid (s r : Int) (k : Bool) (w : World) :
    Calls Try.prog 22 #[.agg #[.int .i64 s, .int .i64 r, .bool k]] w fun e w' => e = .returned (.bool (vM s r)) ∧ Below w.heap.size w w' := by
  by_cases h0 : 0 ≤ s
  · have h0' : decide (0 ≤ s) = true := by simpa using h0
    by_cases h1 : s ≤ 1000000
    · have h1' : decide (s ≤ 1000000) = true := by simpa using h1
      by_cases h2 : -1000000000000000 ≤ r
      · have h2' : decide (-1000000000000000 ≤ r) = true := by simpa using h2
        have hr : Hid (decide (r ≤ 1000000000000000) = vM s r) := by show _ = _; simp [vM, h0, h1, h2]
        go_enter Try.func22, Try.ntmps22
        go_wp2
        go_ret
        exact ⟨ret_bool hr.out, bel_alloc (Below.refl _ _) _⟩
      · have h2' : decide (-1000000000000000 ≤ r) = false := by simpa using h2
        have hr : Hid (false = vM s r) := by show _ = _; simp [vM, h2]
        go_enter Try.func22, Try.ntmps22
        go_wp2
        go_ret
        exact ⟨ret_bool hr.out, bel_alloc (Below.refl _ _) _⟩
    · have h1' : decide (s ≤ 1000000) = false := by simpa using h1
      have hr : Hid (false = vM s r) := by show _ = _; simp [vM, h1]
      go_enter Try.func22, Try.ntmps22
      go_wp2
      go_ret
      exact ⟨ret_bool hr.out, bel_alloc (Below.refl _ _) _⟩
  · have h0' : decide (0 ≤ s) = false := by simpa using h0
    have hr : Hid (false = vM s r) := by show _ = _; simp [vM, h0]
    go_enter Try.func22, Try.ntmps22
    go_wp2
    go_ret
    exact ⟨ret_bool hr.out, bel_alloc (Below.refl _ _) _⟩

theorem refTick (a p : Int) (w : World) (ha : 0 ≤ a ∧ a ≤ 80) (hp : 0 ≤ p ∧ p ≤ 3) :
    Calls Try.prog 23 #[.int .i64 a, .int .i64 p] w fun e w' => e = .returned (.int .i64 (2300 * a * p)) ∧ w' = w := by
  have hpr := prod_bd ha hp
  go_enter Try.func23, Try.ntmps23
  go_wp2
  go_ret
  exact ⟨rfl, rfl⟩

set_option maxHeartbeats 1000000 in
theorem swap_v (s r n m : Int) (k : Bool) (w : World) (hv : vM s r = false) :
    Calls Try.prog 12 #[.agg #[.int .i64 s, .int .i64 r, .bool k], .int .i64 n, .int .i64 m] w fun e w' => e = .returned (.tuple #[.agg #[.int .i64 0, .int .i64 0, .bool false], .int .i64 1]) ∧ Below w.heap.size w w' := by
  go_enter Try.func12, Try.ntmps12
  go_wp2_with fail
  refine (valid_any s r k _).mono ?_
  rintro e w1 ⟨rfl, hb1⟩
  obtain ⟨k1, k2, k3, hz1, h1⟩ := box3k hb1
  obtain ⟨d0, d1, d2, f0, f1, f2⟩ := blk3 k2
  clear k1 k2 k3
  rw [hv]
  go_wp2
  refine bodyPost_ret (v := .tuple #[.agg #[.int .i64 0, .int .i64 0, .bool false], .int .i64 1]) (by simp [results, Try.results12, go_sem, d0, d1, d2]) rfl ⟨rfl, ?_⟩
  repeat (first | exact h1 | apply bel_alloc | refine Below.setCell ?_ (Nat.le_succ _) _)
set_option maxHeartbeats 1000000 in
theorem swap_o (s r n m : Int) (k : Bool) (w : World) (hv : vM s r = true) (ho : vM n m = false) :
    Calls Try.prog 12 #[.agg #[.int .i64 s, .int .i64 r, .bool k], .int .i64 n, .int .i64 m] w fun e w' => e = .returned (.tuple #[.agg #[.int .i64 0, .int .i64 0, .bool false], .int .i64 1]) ∧ Below w.heap.size w w' := by
  go_enter Try.func12, Try.ntmps12
  go_wp2_with fail
  refine (valid_any s r k _).mono ?_
  rintro e w1 ⟨rfl, hb1⟩
  obtain ⟨k1, k2, k3, hz1, h1⟩ := box3k hb1
  have K1 := Lib.hid k1
  have K2 := Lib.hid k2
  have K3 := Lib.hid k3
  obtain ⟨q0, q1, q2, _, _, _⟩ := blk3 k3
  clear k1 k2 k3
  rw [hv]
  go_wp2_with fail
  refine (valid_any n m false _).mono ?_
  rintro e w2 ⟨rfl, hb2⟩
  obtain ⟨c0, c1, c2, _, _, _⟩ := blk3 ((hb2.block _ (by omega)).trans K1.out)
  obtain ⟨d0, d1, d2, f0, f1, f2⟩ := blk3 ((hb2.block _ (by omega)).trans K2.out)
  clear q0 q1 q2
  obtain ⟨q0, q1, q2, _, _, _⟩ := blk3 ((hb2.block _ (by omega)).trans K3.out)
  have h1 := bel_step h1 hb2
  rw [ho]
  go_wp2
  refine bodyPost_ret (v := .tuple #[.agg #[.int .i64 0, .int .i64 0, .bool false], .int .i64 1]) (by simp [results, Try.results12, go_sem, d0, d1, d2]) rfl ⟨rfl, ?_⟩
  repeat (first | exact h1 | apply bel_alloc | refine Below.setCell ?_ (Nat.le_succ _) _)
set_option maxHeartbeats 1000000 in
theorem swap_t (s r n m : Int) (k : Bool) (w : World) (hv : vM s r = true) (ho : vM n m = true) (he : s = n) :
    Calls Try.prog 12 #[.agg #[.int .i64 s, .int .i64 r, .bool k], .int .i64 n, .int .i64 m] w fun e w' => e = .returned (.tuple #[.agg #[.int .i64 0, .int .i64 0, .bool false], .int .i64 5]) ∧ Below w.heap.size w w' := by
  subst he
  go_enter Try.func12, Try.ntmps12
  go_wp2_with fail
  refine (valid_any s r k _).mono ?_
  rintro e w1 ⟨rfl, hb1⟩
  obtain ⟨k1, k2, k3, hz1, h1⟩ := box3k hb1
  have K1 := Lib.hid k1
  have K2 := Lib.hid k2
  have K3 := Lib.hid k3
  obtain ⟨q0, q1, q2, _, _, _⟩ := blk3 k3
  clear k1 k2 k3
  rw [hv]
  go_wp2_with fail
  refine (valid_any s m false _).mono ?_
  rintro e w2 ⟨rfl, hb2⟩
  obtain ⟨c0, c1, c2, _, _, _⟩ := blk3 ((hb2.block _ (by omega)).trans K1.out)
  obtain ⟨d0, d1, d2, f0, f1, f2⟩ := blk3 ((hb2.block _ (by omega)).trans K2.out)
  clear q0 q1 q2
  obtain ⟨q0, q1, q2, _, _, _⟩ := blk3 ((hb2.block _ (by omega)).trans K3.out)
  have h1 := bel_step h1 hb2
  rw [ho]
  go_wp2
  refine bodyPost_ret (v := .tuple #[.agg #[.int .i64 0, .int .i64 0, .bool false], .int .i64 5]) (by simp [results, Try.results12, go_sem, d0, d1, d2]) rfl ⟨rfl, ?_⟩
  repeat (first | exact h1 | apply bel_alloc | refine Below.setCell ?_ (Nat.le_succ _) _)
set_option maxHeartbeats 1000000 in
theorem swap_y (s r n m : Int) (k : Bool) (w : World) (hv : vM s r = true) (ho : vM n m = true) (he : s ≠ n) :
    Calls Try.prog 12 #[.agg #[.int .i64 s, .int .i64 r, .bool k], .int .i64 n, .int .i64 m] w fun e w' => e = .returned (.tuple #[.agg #[.int .i64 n, .int .i64 m, .bool false], .int .i64 0]) ∧ Below w.heap.size w w' := by
  have he' : (s == n) = false := by simpa using he
  have he2 : (n == s) = false := by simpa using Ne.symm he
  go_enter Try.func12, Try.ntmps12
  go_wp2_with fail
  refine (valid_any s r k _).mono ?_
  rintro e w1 ⟨rfl, hb1⟩
  obtain ⟨k1, k2, k3, hz1, h1⟩ := box3k hb1
  have K1 := Lib.hid k1
  have K2 := Lib.hid k2
  have K3 := Lib.hid k3
  obtain ⟨q0, q1, q2, _, _, _⟩ := blk3 k3
  clear k1 k2 k3
  rw [hv]
  go_wp2_with fail
  refine (valid_any n m false _).mono ?_
  rintro e w2 ⟨rfl, hb2⟩
  obtain ⟨c0, c1, c2, _, _, _⟩ := blk3 ((hb2.block _ (by omega)).trans K1.out)
  obtain ⟨d0, d1, d2, f0, f1, f2⟩ := blk3 ((hb2.block _ (by omega)).trans K2.out)
  clear q0 q1 q2
  obtain ⟨q0, q1, q2, _, _, _⟩ := blk3 ((hb2.block _ (by omega)).trans K3.out)
  have h1 := bel_step h1 hb2
  rw [ho]
  go_wp2
  refine bodyPost_ret (v := .tuple #[.agg #[.int .i64 n, .int .i64 m, .bool false], .int .i64 0]) (by simp [results, Try.results12, go_sem, d0, d1, d2]) rfl ⟨rfl, ?_⟩
  repeat (first | exact h1 | apply bel_alloc | refine Below.setCell ?_ (Nat.le_succ _) _)
theorem swap_any (s r n m : Int) (k : Bool) (w : World) :
    Calls Try.prog 12 #[.agg #[.int .i64 s, .int .i64 r, .bool k], .int .i64 n, .int .i64 m] w
      fun e w' => e = .returned (.tuple #[.agg #[.int .i64 (zI (sE s r n m) n), .int .i64 (zI (sE s r n m) m), .bool false], .int .i64 (sE s r n m)]) ∧ Below w.heap.size w w' := by
  cases hv : vM s r
  · exact (swap_v s r n m k w hv).mono fun e w' h => ret_m2 (by simp [sE, zI, hv]) h.2 h.1
  · cases ho : vM n m
    · exact (swap_o s r n m k w hv ho).mono fun e w' h => ret_m2 (by simp [sE, zI, ho]) h.2 h.1
    · by_cases he : s = n
      · exact (swap_t s r n m k w hv ho he).mono fun e w' h => ret_m2 (by simp [sE, zI, ho, he]; simp [← he, hv]) h.2 h.1
      · exact (swap_y s r n m k w hv ho he).mono fun e w' h => ret_m2 (by simp [sE, zI, hv, ho, he]) h.2 h.1

set_option maxHeartbeats 1000000 in
theorem energy_v (s r n m : Int) (k j : Bool) (w : World) (hv : vM s r = false) :
    Calls Try.prog 14 #[.agg #[.int .i64 s, .int .i64 r, .bool k], .agg #[.int .i64 n, .int .i64 m, .bool j]] w fun e w' => e = .returned (.tuple #[.int .i64 (0), .int .i64 1]) ∧ Below w.heap.size w w' := by
  go_enter Try.func14, Try.ntmps14
  go_wp2_with fail
  refine (valid_any s r k _).mono ?_
  rintro e w1 ⟨rfl, hb1⟩
  obtain ⟨k1, k2, hz1, h1⟩ := box2 hb1
  clear k1 k2
  rw [hv]
  go_wp2
  go_ret2
  exact ⟨rfl, h1⟩
set_option maxHeartbeats 1000000 in
theorem energy_o (s r n m : Int) (k j : Bool) (w : World) (hv : vM s r = true) (ho : vM n m = false) :
    Calls Try.prog 14 #[.agg #[.int .i64 s, .int .i64 r, .bool k], .agg #[.int .i64 n, .int .i64 m, .bool j]] w fun e w' => e = .returned (.tuple #[.int .i64 (0), .int .i64 1]) ∧ Below w.heap.size w w' := by
  go_enter Try.func14, Try.ntmps14
  go_wp2_with fail
  refine (valid_any s r k _).mono ?_
  rintro e w1 ⟨rfl, hb1⟩
  obtain ⟨k1, k2, hz1, h1⟩ := box2 hb1
  have K1 := Lib.hid k1
  have K2 := Lib.hid k2
  obtain ⟨q0, q1, q2, _, _, _⟩ := blk3 k2
  clear k1 k2
  rw [hv]
  go_wp2_with fail
  refine (valid_any n m j _).mono ?_
  rintro e w2 ⟨rfl, hb2⟩
  obtain ⟨c0, c1, c2, _, _, _⟩ := blk3 ((hb2.block _ (by omega)).trans K1.out)
  clear q0 q1 q2
  obtain ⟨q0, q1, q2, _, _, _⟩ := blk3 ((hb2.block _ (by omega)).trans K2.out)
  have h1 := bel_step h1 hb2
  rw [ho]
  go_wp2
  go_ret2
  exact ⟨rfl, h1⟩
set_option maxHeartbeats 1000000 in
theorem energy_d (s r n m : Int) (k j : Bool) (w : World) (hv : vM s r = true) (ho : vM n m = true) (he : s ≠ n) :
    Calls Try.prog 14 #[.agg #[.int .i64 s, .int .i64 r, .bool k], .agg #[.int .i64 n, .int .i64 m, .bool j]] w fun e w' => e = .returned (.tuple #[.int .i64 (0), .int .i64 4]) ∧ Below w.heap.size w w' := by
  have he' : (s == n) = false := by simpa using he
  have he2 : (s != n) = true := by simpa using he
  have b1 := vM_iff.1 hv
  have b2 := vM_iff.1 ho
  go_enter Try.func14, Try.ntmps14
  go_wp2_with fail
  refine (valid_any s r k _).mono ?_
  rintro e w1 ⟨rfl, hb1⟩
  obtain ⟨k1, k2, hz1, h1⟩ := box2 hb1
  have K1 := Lib.hid k1
  have K2 := Lib.hid k2
  obtain ⟨q0, q1, q2, _, _, _⟩ := blk3 k2
  clear k1 k2
  rw [hv]
  go_wp2_with fail
  refine (valid_any n m j _).mono ?_
  rintro e w2 ⟨rfl, hb2⟩
  obtain ⟨c0, c1, c2, _, _, _⟩ := blk3 ((hb2.block _ (by omega)).trans K1.out)
  clear q0 q1 q2
  obtain ⟨q0, q1, q2, _, _, _⟩ := blk3 ((hb2.block _ (by omega)).trans K2.out)
  have h1 := bel_step h1 hb2
  rw [ho]
  go_wp2
  go_ret2
  exact ⟨rfl, h1⟩
set_option maxHeartbeats 1000000 in
theorem energy_l (s r n m : Int) (k j : Bool) (w : World) (hv : vM s r = true) (ho : vM n m = true) (he : s = n) (hl : m < r) :
    Calls Try.prog 14 #[.agg #[.int .i64 s, .int .i64 r, .bool k], .agg #[.int .i64 n, .int .i64 m, .bool j]] w fun e w' => e = .returned (.tuple #[.int .i64 (0), .int .i64 11]) ∧ Below w.heap.size w w' := by
  subst he
  have b1 := vM_iff.1 hv
  have b2 := vM_iff.1 ho
  go_enter Try.func14, Try.ntmps14
  go_wp2_with fail
  refine (valid_any s r k _).mono ?_
  rintro e w1 ⟨rfl, hb1⟩
  obtain ⟨k1, k2, hz1, h1⟩ := box2 hb1
  have K1 := Lib.hid k1
  have K2 := Lib.hid k2
  obtain ⟨q0, q1, q2, _, _, _⟩ := blk3 k2
  clear k1 k2
  rw [hv]
  go_wp2_with fail
  refine (valid_any s m j _).mono ?_
  rintro e w2 ⟨rfl, hb2⟩
  obtain ⟨c0, c1, c2, _, _, _⟩ := blk3 ((hb2.block _ (by omega)).trans K1.out)
  clear q0 q1 q2
  obtain ⟨q0, q1, q2, _, _, _⟩ := blk3 ((hb2.block _ (by omega)).trans K2.out)
  have h1 := bel_step h1 hb2
  rw [ho]
  go_wp2
  go_ret2
  exact ⟨rfl, h1⟩
set_option maxHeartbeats 1000000 in
theorem energy_y (s r n m : Int) (k j : Bool) (w : World) (hv : vM s r = true) (ho : vM n m = true) (he : s = n) (hl : ¬ m < r) :
    Calls Try.prog 14 #[.agg #[.int .i64 s, .int .i64 r, .bool k], .agg #[.int .i64 n, .int .i64 m, .bool j]] w fun e w' => e = .returned (.tuple #[.int .i64 ((m - r) / 3600), .int .i64 0]) ∧ Below w.heap.size w w' := by
  subst he
  have b1 := vM_iff.1 hv
  have b2 := vM_iff.1 ho
  go_enter Try.func14, Try.ntmps14
  go_wp2_with fail
  refine (valid_any s r k _).mono ?_
  rintro e w1 ⟨rfl, hb1⟩
  obtain ⟨k1, k2, hz1, h1⟩ := box2 hb1
  have K1 := Lib.hid k1
  have K2 := Lib.hid k2
  obtain ⟨q0, q1, q2, _, _, _⟩ := blk3 k2
  clear k1 k2
  rw [hv]
  go_wp2_with fail
  refine (valid_any s m j _).mono ?_
  rintro e w2 ⟨rfl, hb2⟩
  obtain ⟨c0, c1, c2, _, _, _⟩ := blk3 ((hb2.block _ (by omega)).trans K1.out)
  clear q0 q1 q2
  obtain ⟨q0, q1, q2, _, _, _⟩ := blk3 ((hb2.block _ (by omega)).trans K2.out)
  have h1 := bel_step h1 hb2
  rw [ho]
  go_wp2
  go_ret2
  exact ⟨rfl, h1⟩
theorem energy_any (s r n m : Int) (k j : Bool) (w : World) :
    Calls Try.prog 14 #[.agg #[.int .i64 s, .int .i64 r, .bool k], .agg #[.int .i64 n, .int .i64 m, .bool j]] w
      fun e w' => e = .returned (.tuple #[.int .i64 (zI (eE s r n m) ((m - r) / 3600)), .int .i64 (eE s r n m)]) ∧ Below w.heap.size w w' := by
  cases hv : vM s r
  · exact (energy_v s r n m k j w hv).mono fun e w' h => ⟨h.1.trans (ret_two (by simp [eE, zI, hv]) (by simp [eE, hv])), h.2⟩
  · cases ho : vM n m
    · exact (energy_o s r n m k j w hv ho).mono fun e w' h => ⟨h.1.trans (ret_two (by simp [eE, zI, ho]) (by simp [eE, ho])), h.2⟩
    · by_cases he : s = n
      · by_cases hl : m < r
        · have hE : eE s r n m = 11 := by unfold eE; rw [if_pos (by simp [hv, ho]), if_pos he, if_pos hl]
          exact (energy_l s r n m k j w hv ho he hl).mono fun e w' h => ⟨h.1.trans (ret_two (by rw [hE]; simp [zI]) hE.symm), h.2⟩
        · have hE : eE s r n m = 0 := by unfold eE; rw [if_pos (by simp [hv, ho]), if_pos he, if_neg hl]
          exact (energy_y s r n m k j w hv ho he hl).mono fun e w' h => ⟨h.1.trans (ret_two (by rw [hE]; simp [zI]) hE.symm), h.2⟩
      · have hE : eE s r n m = 4 := by unfold eE; rw [if_pos (by simp [hv, ho]), if_neg he]
        exact (energy_d s r n m k j w hv ho he).mono fun e w' h => ⟨h.1.trans (ret_two (by rw [hE]; simp [zI]) hE.symm), h.2⟩

set_option maxHeartbeats 1000000 in
theorem rswap_v (s r n m : Int) (k : Bool) (w : World) (hv : vM s r = false) :
    Calls Try.prog 13 #[.agg #[.int .i64 s, .int .i64 r, .bool k], .int .i64 n, .int .i64 m] w fun e w' => e = .returned (.tuple #[.agg #[.int .i64 0, .int .i64 0, .bool false], .int .i64 1]) ∧ Below w.heap.size w w' := by
  go_enter Try.func13, Try.ntmps13
  go_wp2_with fail
  refine (refValid s r k _).mono ?_
  rintro e w1 ⟨rfl, hb1⟩
  obtain ⟨k1, k2, k3, hz1, h1⟩ := box3k hb1
  obtain ⟨d0, d1, d2, f0, f1, f2⟩ := blk3 k2
  clear k1 k2 k3
  rw [hv]
  go_wp2
  refine bodyPost_ret (v := .tuple #[.agg #[.int .i64 0, .int .i64 0, .bool false], .int .i64 1]) (by simp [results, Try.results13, go_sem, d0, d1, d2]) rfl ⟨rfl, ?_⟩
  repeat (first | exact h1 | apply bel_alloc | refine Below.setCell ?_ (Nat.le_succ _) _)
set_option maxHeartbeats 1000000 in
theorem rswap_o (s r n m : Int) (k : Bool) (w : World) (hv : vM s r = true) (ho : vM n m = false) :
    Calls Try.prog 13 #[.agg #[.int .i64 s, .int .i64 r, .bool k], .int .i64 n, .int .i64 m] w fun e w' => e = .returned (.tuple #[.agg #[.int .i64 0, .int .i64 0, .bool false], .int .i64 1]) ∧ Below w.heap.size w w' := by
  go_enter Try.func13, Try.ntmps13
  go_wp2_with fail
  refine (refValid s r k _).mono ?_
  rintro e w1 ⟨rfl, hb1⟩
  obtain ⟨k1, k2, k3, hz1, h1⟩ := box3k hb1
  have K1 := Lib.hid k1
  have K2 := Lib.hid k2
  have K3 := Lib.hid k3
  obtain ⟨q0, q1, q2, _, _, _⟩ := blk3 k3
  clear k1 k2 k3
  rw [hv]
  go_wp2_with fail
  refine (refValid n m false _).mono ?_
  rintro e w2 ⟨rfl, hb2⟩
  obtain ⟨c0, c1, c2, _, _, _⟩ := blk3 ((hb2.block _ (by omega)).trans K1.out)
  obtain ⟨d0, d1, d2, f0, f1, f2⟩ := blk3 ((hb2.block _ (by omega)).trans K2.out)
  clear q0 q1 q2
  obtain ⟨q0, q1, q2, _, _, _⟩ := blk3 ((hb2.block _ (by omega)).trans K3.out)
  have h1 := bel_step h1 hb2
  rw [ho]
  go_wp2
  refine bodyPost_ret (v := .tuple #[.agg #[.int .i64 0, .int .i64 0, .bool false], .int .i64 1]) (by simp [results, Try.results13, go_sem, d0, d1, d2]) rfl ⟨rfl, ?_⟩
  repeat (first | exact h1 | apply bel_alloc | refine Below.setCell ?_ (Nat.le_succ _) _)
set_option maxHeartbeats 1000000 in
theorem rswap_t (s r n m : Int) (k : Bool) (w : World) (hv : vM s r = true) (ho : vM n m = true) (he : s = n) :
    Calls Try.prog 13 #[.agg #[.int .i64 s, .int .i64 r, .bool k], .int .i64 n, .int .i64 m] w fun e w' => e = .returned (.tuple #[.agg #[.int .i64 0, .int .i64 0, .bool false], .int .i64 5]) ∧ Below w.heap.size w w' := by
  subst he
  go_enter Try.func13, Try.ntmps13
  go_wp2_with fail
  refine (refValid s r k _).mono ?_
  rintro e w1 ⟨rfl, hb1⟩
  obtain ⟨k1, k2, k3, hz1, h1⟩ := box3k hb1
  have K1 := Lib.hid k1
  have K2 := Lib.hid k2
  have K3 := Lib.hid k3
  obtain ⟨q0, q1, q2, _, _, _⟩ := blk3 k3
  clear k1 k2 k3
  rw [hv]
  go_wp2_with fail
  refine (refValid s m false _).mono ?_
  rintro e w2 ⟨rfl, hb2⟩
  obtain ⟨c0, c1, c2, _, _, _⟩ := blk3 ((hb2.block _ (by omega)).trans K1.out)
  obtain ⟨d0, d1, d2, f0, f1, f2⟩ := blk3 ((hb2.block _ (by omega)).trans K2.out)
  clear q0 q1 q2
  obtain ⟨q0, q1, q2, _, _, _⟩ := blk3 ((hb2.block _ (by omega)).trans K3.out)
  have h1 := bel_step h1 hb2
  rw [ho]
  go_wp2
  refine bodyPost_ret (v := .tuple #[.agg #[.int .i64 0, .int .i64 0, .bool false], .int .i64 5]) (by simp [results, Try.results13, go_sem, d0, d1, d2]) rfl ⟨rfl, ?_⟩
  repeat (first | exact h1 | apply bel_alloc | refine Below.setCell ?_ (Nat.le_succ _) _)
set_option maxHeartbeats 1000000 in
theorem rswap_y (s r n m : Int) (k : Bool) (w : World) (hv : vM s r = true) (ho : vM n m = true) (he : s ≠ n) :
    Calls Try.prog 13 #[.agg #[.int .i64 s, .int .i64 r, .bool k], .int .i64 n, .int .i64 m] w fun e w' => e = .returned (.tuple #[.agg #[.int .i64 n, .int .i64 m, .bool false], .int .i64 0]) ∧ Below w.heap.size w w' := by
  have he' : (s == n) = false := by simpa using he
  have he2 : (n == s) = false := by simpa using Ne.symm he
  go_enter Try.func13, Try.ntmps13
  go_wp2_with fail
  refine (refValid s r k _).mono ?_
  rintro e w1 ⟨rfl, hb1⟩
  obtain ⟨k1, k2, k3, hz1, h1⟩ := box3k hb1
  have K1 := Lib.hid k1
  have K2 := Lib.hid k2
  have K3 := Lib.hid k3
  obtain ⟨q0, q1, q2, _, _, _⟩ := blk3 k3
  clear k1 k2 k3
  rw [hv]
  go_wp2_with fail
  refine (refValid n m false _).mono ?_
  rintro e w2 ⟨rfl, hb2⟩
  obtain ⟨c0, c1, c2, _, _, _⟩ := blk3 ((hb2.block _ (by omega)).trans K1.out)
  obtain ⟨d0, d1, d2, f0, f1, f2⟩ := blk3 ((hb2.block _ (by omega)).trans K2.out)
  clear q0 q1 q2
  obtain ⟨q0, q1, q2, _, _, _⟩ := blk3 ((hb2.block _ (by omega)).trans K3.out)
  have h1 := bel_step h1 hb2
  rw [ho]
  go_wp2
  refine bodyPost_ret (v := .tuple #[.agg #[.int .i64 n, .int .i64 m, .bool false], .int .i64 0]) (by simp [results, Try.results13, go_sem, d0, d1, d2]) rfl ⟨rfl, ?_⟩
  repeat (first | exact h1 | apply bel_alloc | refine Below.setCell ?_ (Nat.le_succ _) _)
theorem rswap_any (s r n m : Int) (k : Bool) (w : World) :
    Calls Try.prog 13 #[.agg #[.int .i64 s, .int .i64 r, .bool k], .int .i64 n, .int .i64 m] w
      fun e w' => e = .returned (.tuple #[.agg #[.int .i64 (zI (sE s r n m) n), .int .i64 (zI (sE s r n m) m), .bool false], .int .i64 (sE s r n m)]) ∧ Below w.heap.size w w' := by
  cases hv : vM s r
  · exact (rswap_v s r n m k w hv).mono fun e w' h => ret_m2 (by simp [sE, zI, hv]) h.2 h.1
  · cases ho : vM n m
    · exact (rswap_o s r n m k w hv ho).mono fun e w' h => ret_m2 (by simp [sE, zI, ho]) h.2 h.1
    · by_cases he : s = n
      · exact (rswap_t s r n m k w hv ho he).mono fun e w' h => ret_m2 (by simp [sE, zI, ho, he]; simp [← he, hv]) h.2 h.1
      · exact (rswap_y s r n m k w hv ho he).mono fun e w' h => ret_m2 (by simp [sE, zI, hv, ho, he]) h.2 h.1

set_option maxHeartbeats 1000000 in
theorem renergy_v (s r n m : Int) (k j : Bool) (w : World) (hv : vM s r = false) :
    Calls Try.prog 15 #[.agg #[.int .i64 s, .int .i64 r, .bool k], .agg #[.int .i64 n, .int .i64 m, .bool j]] w fun e w' => e = .returned (.tuple #[.int .i64 (0), .int .i64 1]) ∧ Below w.heap.size w w' := by
  go_enter Try.func15, Try.ntmps15
  go_wp2_with fail
  refine (refValid s r k _).mono ?_
  rintro e w1 ⟨rfl, hb1⟩
  obtain ⟨k1, k2, hz1, h1⟩ := box2 hb1
  clear k1 k2
  rw [hv]
  go_wp2
  go_ret2
  exact ⟨rfl, h1⟩
set_option maxHeartbeats 1000000 in
theorem renergy_o (s r n m : Int) (k j : Bool) (w : World) (hv : vM s r = true) (ho : vM n m = false) :
    Calls Try.prog 15 #[.agg #[.int .i64 s, .int .i64 r, .bool k], .agg #[.int .i64 n, .int .i64 m, .bool j]] w fun e w' => e = .returned (.tuple #[.int .i64 (0), .int .i64 1]) ∧ Below w.heap.size w w' := by
  go_enter Try.func15, Try.ntmps15
  go_wp2_with fail
  refine (refValid s r k _).mono ?_
  rintro e w1 ⟨rfl, hb1⟩
  obtain ⟨k1, k2, hz1, h1⟩ := box2 hb1
  have K1 := Lib.hid k1
  have K2 := Lib.hid k2
  obtain ⟨q0, q1, q2, _, _, _⟩ := blk3 k2
  clear k1 k2
  rw [hv]
  go_wp2_with fail
  refine (refValid n m j _).mono ?_
  rintro e w2 ⟨rfl, hb2⟩
  obtain ⟨c0, c1, c2, _, _, _⟩ := blk3 ((hb2.block _ (by omega)).trans K1.out)
  clear q0 q1 q2
  obtain ⟨q0, q1, q2, _, _, _⟩ := blk3 ((hb2.block _ (by omega)).trans K2.out)
  have h1 := bel_step h1 hb2
  rw [ho]
  go_wp2
  go_ret2
  exact ⟨rfl, h1⟩
set_option maxHeartbeats 1000000 in
theorem renergy_d (s r n m : Int) (k j : Bool) (w : World) (hv : vM s r = true) (ho : vM n m = true) (he : s ≠ n) :
    Calls Try.prog 15 #[.agg #[.int .i64 s, .int .i64 r, .bool k], .agg #[.int .i64 n, .int .i64 m, .bool j]] w fun e w' => e = .returned (.tuple #[.int .i64 (0), .int .i64 4]) ∧ Below w.heap.size w w' := by
  have he' : (s == n) = false := by simpa using he
  have he2 : (s != n) = true := by simpa using he
  have b1 := vM_iff.1 hv
  have b2 := vM_iff.1 ho
  go_enter Try.func15, Try.ntmps15
  go_wp2_with fail
  refine (refValid s r k _).mono ?_
  rintro e w1 ⟨rfl, hb1⟩
  obtain ⟨k1, k2, hz1, h1⟩ := box2 hb1
  have K1 := Lib.hid k1
  have K2 := Lib.hid k2
  obtain ⟨q0, q1, q2, _, _, _⟩ := blk3 k2
  clear k1 k2
  rw [hv]
  go_wp2_with fail
  refine (refValid n m j _).mono ?_
  rintro e w2 ⟨rfl, hb2⟩
  obtain ⟨c0, c1, c2, _, _, _⟩ := blk3 ((hb2.block _ (by omega)).trans K1.out)
  clear q0 q1 q2
  obtain ⟨q0, q1, q2, _, _, _⟩ := blk3 ((hb2.block _ (by omega)).trans K2.out)
  have h1 := bel_step h1 hb2
  rw [ho]
  go_wp2
  go_ret2
  exact ⟨rfl, h1⟩
set_option maxHeartbeats 1000000 in
theorem renergy_l (s r n m : Int) (k j : Bool) (w : World) (hv : vM s r = true) (ho : vM n m = true) (he : s = n) (hl : m < r) :
    Calls Try.prog 15 #[.agg #[.int .i64 s, .int .i64 r, .bool k], .agg #[.int .i64 n, .int .i64 m, .bool j]] w fun e w' => e = .returned (.tuple #[.int .i64 (0), .int .i64 11]) ∧ Below w.heap.size w w' := by
  subst he
  have b1 := vM_iff.1 hv
  have b2 := vM_iff.1 ho
  go_enter Try.func15, Try.ntmps15
  go_wp2_with fail
  refine (refValid s r k _).mono ?_
  rintro e w1 ⟨rfl, hb1⟩
  obtain ⟨k1, k2, hz1, h1⟩ := box2 hb1
  have K1 := Lib.hid k1
  have K2 := Lib.hid k2
  obtain ⟨q0, q1, q2, _, _, _⟩ := blk3 k2
  clear k1 k2
  rw [hv]
  go_wp2_with fail
  refine (refValid s m j _).mono ?_
  rintro e w2 ⟨rfl, hb2⟩
  obtain ⟨c0, c1, c2, _, _, _⟩ := blk3 ((hb2.block _ (by omega)).trans K1.out)
  clear q0 q1 q2
  obtain ⟨q0, q1, q2, _, _, _⟩ := blk3 ((hb2.block _ (by omega)).trans K2.out)
  have h1 := bel_step h1 hb2
  rw [ho]
  go_wp2
  go_ret2
  exact ⟨rfl, h1⟩
set_option maxHeartbeats 1000000 in
theorem renergy_y (s r n m : Int) (k j : Bool) (w : World) (hv : vM s r = true) (ho : vM n m = true) (he : s = n) (hl : ¬ m < r) :
    Calls Try.prog 15 #[.agg #[.int .i64 s, .int .i64 r, .bool k], .agg #[.int .i64 n, .int .i64 m, .bool j]] w fun e w' => e = .returned (.tuple #[.int .i64 ((m - r) / 3600), .int .i64 0]) ∧ Below w.heap.size w w' := by
  subst he
  have b1 := vM_iff.1 hv
  have b2 := vM_iff.1 ho
  go_enter Try.func15, Try.ntmps15
  go_wp2_with fail
  refine (refValid s r k _).mono ?_
  rintro e w1 ⟨rfl, hb1⟩
  obtain ⟨k1, k2, hz1, h1⟩ := box2 hb1
  have K1 := Lib.hid k1
  have K2 := Lib.hid k2
  obtain ⟨q0, q1, q2, _, _, _⟩ := blk3 k2
  clear k1 k2
  rw [hv]
  go_wp2_with fail
  refine (refValid s m j _).mono ?_
  rintro e w2 ⟨rfl, hb2⟩
  obtain ⟨c0, c1, c2, _, _, _⟩ := blk3 ((hb2.block _ (by omega)).trans K1.out)
  clear q0 q1 q2
  obtain ⟨q0, q1, q2, _, _, _⟩ := blk3 ((hb2.block _ (by omega)).trans K2.out)
  have h1 := bel_step h1 hb2
  rw [ho]
  go_wp2
  go_ret2
  exact ⟨rfl, h1⟩
theorem renergy_any (s r n m : Int) (k j : Bool) (w : World) :
    Calls Try.prog 15 #[.agg #[.int .i64 s, .int .i64 r, .bool k], .agg #[.int .i64 n, .int .i64 m, .bool j]] w
      fun e w' => e = .returned (.tuple #[.int .i64 (zI (eE s r n m) ((m - r) / 3600)), .int .i64 (eE s r n m)]) ∧ Below w.heap.size w w' := by
  cases hv : vM s r
  · exact (renergy_v s r n m k j w hv).mono fun e w' h => ⟨h.1.trans (ret_two (by simp [eE, zI, hv]) (by simp [eE, hv])), h.2⟩
  · cases ho : vM n m
    · exact (renergy_o s r n m k j w hv ho).mono fun e w' h => ⟨h.1.trans (ret_two (by simp [eE, zI, ho]) (by simp [eE, ho])), h.2⟩
    · by_cases he : s = n
      · by_cases hl : m < r
        · have hE : eE s r n m = 11 := by unfold eE; rw [if_pos (by simp [hv, ho]), if_pos he, if_pos hl]
          exact (renergy_l s r n m k j w hv ho he hl).mono fun e w' h => ⟨h.1.trans (ret_two (by rw [hE]; simp [zI]) hE.symm), h.2⟩
        · have hE : eE s r n m = 0 := by unfold eE; rw [if_pos (by simp [hv, ho]), if_pos he, if_neg hl]
          exact (renergy_y s r n m k j w hv ho he hl).mono fun e w' h => ⟨h.1.trans (ret_two (by rw [hE]; simp [zI]) hE.symm), h.2⟩
      · have hE : eE s r n m = 4 := by unfold eE; rw [if_pos (by simp [hv, ho]), if_neg he]
        exact (renergy_d s r n m k j w hv ho he).mono fun e w' h => ⟨h.1.trans (ret_two (by rw [hE]; simp [zI]) hE.symm), h.2⟩

set_option maxHeartbeats 1000000 in
theorem rcount_fwd (s r a p : Int) (w : World) (hv : vM s r = true) (ha : upB 80 a = true) (hp : upB 3 p = true) (hn : vM s (r + 2300 * a * p) = true) :
    Calls Try.prog 11 #[.agg #[.int .i64 s, .int .i64 r, .bool false], .int .i64 a, .int .i64 p] w
      fun e w' => e = .returned (.tuple #[.agg #[.int .i64 s, .int .i64 (r + 2300 * a * p), .bool false], .int .i64 0]) ∧ Below w.heap.size w w' := by
  have hvb := vM_iff.1 hv
  have hab : 0 ≤ a ∧ a ≤ 80 := by simpa [upB] using ha
  have hpb : 0 ≤ p ∧ p ≤ 3 := by simpa [upB] using hp
  have hpr := prod_bd hab hpb
  have t1 : decide (a < 0) = false := by simp; omega
  have t2 : decide (80 < a) = false := by simp; omega
  have t3 : decide (p < 0) = false := by simp; omega
  go_enter Try.func11, Try.ntmps11
  go_wp2_with fail
  refine (refValid s r false _).mono ?_
  rintro e w1 ⟨rfl, hb1⟩
  obtain ⟨k1, k2, hz1, h1⟩ := box2 hb1
  obtain ⟨c0, c1, c2, g0, g1, g2⟩ := blk3 k1
  have K2 := Lib.hid k2
  have K1 := Lib.hid k1
  clear k1 k2
  rw [hv]
  go_wp2
  have u1 : IntKind.i64.wrap (r + 2300 * a * p) = r + 2300 * a * p := IntWalk.i64_in _ (by omega)
  refine wp_region_still_tail 7 (by kernel_rfl) (by kernel_rfl) ?_
  simp only [List.take_succ_cons, List.take_zero, List.drop_succ_cons, List.drop_zero]
  repeat still_step
  still_call (refTick a p _ hab hpb)
  repeat still_step
  refine wpStill_nil ?_
  go_wp2_with fail
  refine (refValid s (r + 2300 * a * p) false _).mono ?_
  rintro e w2 ⟨rfl, hb2⟩
  have hs2 : w1.heap.size ≤ w2.heap.size := by simpa using hb2.size
  have hb3 : Below w.heap.size w ((w1.setCell ⟨w.heap.size, 1, none⟩ (.int .i64 (r + 2300 * a * p))).drew) := (h1.setCell (Nat.le_refl _) _).drew
  have h3 : Below w.heap.size w w2 := bel_step hb3 hb2
  have j1 : w2.heap[w.heap.size]? = some (.cells #[.int .i64 s, .int .i64 (r + 2300 * a * p), .bool false] 23) := by
    refine (hb2.block _ (by simp; omega)).trans ?_
    have := K1.out
    simp [World.setCell, World.drew, Array.getElem?_modify, this]
  have j2 : w2.heap[w.heap.size + 1]? = some (.cells #[.int .i64 0, .int .i64 0, .bool false] 23) := by
    refine (hb2.block _ (by simp; omega)).trans ?_
    have := K2.out
    simp [World.setCell, World.drew, Array.getElem?_modify, this]
  obtain ⟨d0, d1, d2, f0, f1, f2⟩ := blk3 j2
  obtain ⟨e0, e1, e2, _, _, _⟩ := blk3 j1
  clear j1 j2 c0 c1 c2 g0 g1 g2 u1
  rw [hn]
  go_wp2
  refine bodyPost_ret (v := .tuple #[.agg #[.int .i64 s, .int .i64 (r + 2300 * a * p), .bool false], .int .i64 0]) (by simp [results, Try.results11, go_sem, d0, d1, d2]) rfl ⟨rfl, ?_⟩
  exact ((h3.setCell (Nat.le_succ _) _).setCell (Nat.le_succ _) _).setCell (Nat.le_succ _) _
set_option maxHeartbeats 1000000 in
theorem rcount_fwdBad (s r a p : Int) (w : World) (hv : vM s r = true) (ha : upB 80 a = true) (hp : upB 3 p = true) (hn : vM s (r + 2300 * a * p) = false) :
    Calls Try.prog 11 #[.agg #[.int .i64 s, .int .i64 r, .bool false], .int .i64 a, .int .i64 p] w
      fun e w' => e = .returned (.tuple #[.agg #[.int .i64 0, .int .i64 0, .bool false], .int .i64 3]) ∧ Below w.heap.size w w' := by
  have hvb := vM_iff.1 hv
  have hab : 0 ≤ a ∧ a ≤ 80 := by simpa [upB] using ha
  have hpb : 0 ≤ p ∧ p ≤ 3 := by simpa [upB] using hp
  have hpr := prod_bd hab hpb
  have t1 : decide (a < 0) = false := by simp; omega
  have t2 : decide (80 < a) = false := by simp; omega
  have t3 : decide (p < 0) = false := by simp; omega
  go_enter Try.func11, Try.ntmps11
  go_wp2_with fail
  refine (refValid s r false _).mono ?_
  rintro e w1 ⟨rfl, hb1⟩
  obtain ⟨k1, k2, hz1, h1⟩ := box2 hb1
  obtain ⟨c0, c1, c2, g0, g1, g2⟩ := blk3 k1
  have K2 := Lib.hid k2
  have K1 := Lib.hid k1
  clear k1 k2
  rw [hv]
  go_wp2
  have u1 : IntKind.i64.wrap (r + 2300 * a * p) = r + 2300 * a * p := IntWalk.i64_in _ (by omega)
  refine wp_region_still_tail 7 (by kernel_rfl) (by kernel_rfl) ?_
  simp only [List.take_succ_cons, List.take_zero, List.drop_succ_cons, List.drop_zero]
  repeat still_step
  still_call (refTick a p _ hab hpb)
  repeat still_step
  refine wpStill_nil ?_
  go_wp2_with fail
  refine (refValid s (r + 2300 * a * p) false _).mono ?_
  rintro e w2 ⟨rfl, hb2⟩
  have hs2 : w1.heap.size ≤ w2.heap.size := by simpa using hb2.size
  have hb3 : Below w.heap.size w ((w1.setCell ⟨w.heap.size, 1, none⟩ (.int .i64 (r + 2300 * a * p))).drew) := (h1.setCell (Nat.le_refl _) _).drew
  have h3 : Below w.heap.size w w2 := bel_step hb3 hb2
  have j1 : w2.heap[w.heap.size]? = some (.cells #[.int .i64 s, .int .i64 (r + 2300 * a * p), .bool false] 23) := by
    refine (hb2.block _ (by simp; omega)).trans ?_
    have := K1.out
    simp [World.setCell, World.drew, Array.getElem?_modify, this]
  have j2 : w2.heap[w.heap.size + 1]? = some (.cells #[.int .i64 0, .int .i64 0, .bool false] 23) := by
    refine (hb2.block _ (by simp; omega)).trans ?_
    have := K2.out
    simp [World.setCell, World.drew, Array.getElem?_modify, this]
  obtain ⟨d0, d1, d2, f0, f1, f2⟩ := blk3 j2
  obtain ⟨e0, e1, e2, _, _, _⟩ := blk3 j1
  clear j1 j2 c0 c1 c2 g0 g1 g2 u1
  rw [hn]
  go_wp2
  refine bodyPost_ret (v := .tuple #[.agg #[.int .i64 0, .int .i64 0, .bool false], .int .i64 3]) (by simp [results, Try.results11, go_sem, d0, d1, d2]) rfl ⟨rfl, ?_⟩
  exact ((h3.setCell (Nat.le_succ _) _).setCell (Nat.le_succ _) _).setCell (Nat.le_succ _) _
set_option maxHeartbeats 1000000 in
theorem rcount_bwd (s r a p : Int) (w : World) (hv : vM s r = true) (ha : upB 80 a = true) (hp : upB 3 p = true) (hn : vM s (r - 2300 * a * p) = true) :
    Calls Try.prog 11 #[.agg #[.int .i64 s, .int .i64 r, .bool true], .int .i64 a, .int .i64 p] w
      fun e w' => e = .returned (.tuple #[.agg #[.int .i64 s, .int .i64 (r - 2300 * a * p), .bool true], .int .i64 0]) ∧ Below w.heap.size w w' := by
  have hvb := vM_iff.1 hv
  have hab : 0 ≤ a ∧ a ≤ 80 := by simpa [upB] using ha
  have hpb : 0 ≤ p ∧ p ≤ 3 := by simpa [upB] using hp
  have hpr := prod_bd hab hpb
  have t1 : decide (a < 0) = false := by simp; omega
  have t2 : decide (80 < a) = false := by simp; omega
  have t3 : decide (p < 0) = false := by simp; omega
  go_enter Try.func11, Try.ntmps11
  go_wp2_with fail
  refine (refValid s r true _).mono ?_
  rintro e w1 ⟨rfl, hb1⟩
  obtain ⟨k1, k2, hz1, h1⟩ := box2 hb1
  obtain ⟨c0, c1, c2, g0, g1, g2⟩ := blk3 k1
  have K2 := Lib.hid k2
  have K1 := Lib.hid k1
  clear k1 k2
  rw [hv]
  go_wp2
  have u1 : IntKind.i64.wrap (r - 2300 * a * p) = r - 2300 * a * p := IntWalk.i64_in _ (by omega)
  refine wp_region_still_tail 7 (by kernel_rfl) (by kernel_rfl) ?_
  simp only [List.take_succ_cons, List.take_zero, List.drop_succ_cons, List.drop_zero]
  repeat still_step
  still_call (refTick a p _ hab hpb)
  repeat still_step
  refine wpStill_nil ?_
  go_wp2_with fail
  refine (refValid s (r - 2300 * a * p) true _).mono ?_
  rintro e w2 ⟨rfl, hb2⟩
  have hs2 : w1.heap.size ≤ w2.heap.size := by simpa using hb2.size
  have hb3 : Below w.heap.size w ((w1.setCell ⟨w.heap.size, 1, none⟩ (.int .i64 (r - 2300 * a * p))).drew) := (h1.setCell (Nat.le_refl _) _).drew
  have h3 : Below w.heap.size w w2 := bel_step hb3 hb2
  have j1 : w2.heap[w.heap.size]? = some (.cells #[.int .i64 s, .int .i64 (r - 2300 * a * p), .bool true] 23) := by
    refine (hb2.block _ (by simp; omega)).trans ?_
    have := K1.out
    simp [World.setCell, World.drew, Array.getElem?_modify, this]
  have j2 : w2.heap[w.heap.size + 1]? = some (.cells #[.int .i64 0, .int .i64 0, .bool false] 23) := by
    refine (hb2.block _ (by simp; omega)).trans ?_
    have := K2.out
    simp [World.setCell, World.drew, Array.getElem?_modify, this]
  obtain ⟨d0, d1, d2, f0, f1, f2⟩ := blk3 j2
  obtain ⟨e0, e1, e2, _, _, _⟩ := blk3 j1
  clear j1 j2 c0 c1 c2 g0 g1 g2 u1
  rw [hn]
  go_wp2
  refine bodyPost_ret (v := .tuple #[.agg #[.int .i64 s, .int .i64 (r - 2300 * a * p), .bool true], .int .i64 0]) (by simp [results, Try.results11, go_sem, d0, d1, d2]) rfl ⟨rfl, ?_⟩
  exact ((h3.setCell (Nat.le_succ _) _).setCell (Nat.le_succ _) _).setCell (Nat.le_succ _) _
set_option maxHeartbeats 1000000 in
theorem rcount_bwdBad (s r a p : Int) (w : World) (hv : vM s r = true) (ha : upB 80 a = true) (hp : upB 3 p = true) (hn : vM s (r - 2300 * a * p) = false) :
    Calls Try.prog 11 #[.agg #[.int .i64 s, .int .i64 r, .bool true], .int .i64 a, .int .i64 p] w
      fun e w' => e = .returned (.tuple #[.agg #[.int .i64 0, .int .i64 0, .bool false], .int .i64 3]) ∧ Below w.heap.size w w' := by
  have hvb := vM_iff.1 hv
  have hab : 0 ≤ a ∧ a ≤ 80 := by simpa [upB] using ha
  have hpb : 0 ≤ p ∧ p ≤ 3 := by simpa [upB] using hp
  have hpr := prod_bd hab hpb
  have t1 : decide (a < 0) = false := by simp; omega
  have t2 : decide (80 < a) = false := by simp; omega
  have t3 : decide (p < 0) = false := by simp; omega
  go_enter Try.func11, Try.ntmps11
  go_wp2_with fail
  refine (refValid s r true _).mono ?_
  rintro e w1 ⟨rfl, hb1⟩
  obtain ⟨k1, k2, hz1, h1⟩ := box2 hb1
  obtain ⟨c0, c1, c2, g0, g1, g2⟩ := blk3 k1
  have K2 := Lib.hid k2
  have K1 := Lib.hid k1
  clear k1 k2
  rw [hv]
  go_wp2
  have u1 : IntKind.i64.wrap (r - 2300 * a * p) = r - 2300 * a * p := IntWalk.i64_in _ (by omega)
  refine wp_region_still_tail 7 (by kernel_rfl) (by kernel_rfl) ?_
  simp only [List.take_succ_cons, List.take_zero, List.drop_succ_cons, List.drop_zero]
  repeat still_step
  still_call (refTick a p _ hab hpb)
  repeat still_step
  refine wpStill_nil ?_
  go_wp2_with fail
  refine (refValid s (r - 2300 * a * p) true _).mono ?_
  rintro e w2 ⟨rfl, hb2⟩
  have hs2 : w1.heap.size ≤ w2.heap.size := by simpa using hb2.size
  have hb3 : Below w.heap.size w ((w1.setCell ⟨w.heap.size, 1, none⟩ (.int .i64 (r - 2300 * a * p))).drew) := (h1.setCell (Nat.le_refl _) _).drew
  have h3 : Below w.heap.size w w2 := bel_step hb3 hb2
  have j1 : w2.heap[w.heap.size]? = some (.cells #[.int .i64 s, .int .i64 (r - 2300 * a * p), .bool true] 23) := by
    refine (hb2.block _ (by simp; omega)).trans ?_
    have := K1.out
    simp [World.setCell, World.drew, Array.getElem?_modify, this]
  have j2 : w2.heap[w.heap.size + 1]? = some (.cells #[.int .i64 0, .int .i64 0, .bool false] 23) := by
    refine (hb2.block _ (by simp; omega)).trans ?_
    have := K2.out
    simp [World.setCell, World.drew, Array.getElem?_modify, this]
  obtain ⟨d0, d1, d2, f0, f1, f2⟩ := blk3 j2
  obtain ⟨e0, e1, e2, _, _, _⟩ := blk3 j1
  clear j1 j2 c0 c1 c2 g0 g1 g2 u1
  rw [hn]
  go_wp2
  refine bodyPost_ret (v := .tuple #[.agg #[.int .i64 0, .int .i64 0, .bool false], .int .i64 3]) (by simp [results, Try.results11, go_sem, d0, d1, d2]) rfl ⟨rfl, ?_⟩
  exact ((h3.setCell (Nat.le_succ _) _).setCell (Nat.le_succ _) _).setCell (Nat.le_succ _) _
set_option maxHeartbeats 1000000 in
theorem rcount_v (s r a p : Int) (k : Bool) (w : World) (hv : vM s r = false) :
    Calls Try.prog 11 #[.agg #[.int .i64 s, .int .i64 r, .bool k], .int .i64 a, .int .i64 p] w
      fun e w' => e = .returned (.tuple #[.agg #[.int .i64 0, .int .i64 0, .bool false], .int .i64 1]) ∧ Below w.heap.size w w' := by
  go_enter Try.func11, Try.ntmps11
  go_wp2_with fail
  refine (refValid s r k _).mono ?_
  rintro e w1 ⟨rfl, hb1⟩
  obtain ⟨k1, k2, hz1, h1⟩ := box2 hb1
  obtain ⟨d0, d1, d2, f0, f1, f2⟩ := blk3 k2
  clear k1 k2
  rw [hv]
  go_wp2
  refine bodyPost_ret (v := .tuple #[.agg #[.int .i64 0, .int .i64 0, .bool false], .int .i64 1]) (by simp [results, Try.results11, go_sem, d0, d1, d2]) rfl ⟨rfl, ?_⟩
  repeat (first | exact h1 | apply bel_alloc | refine Below.setCell ?_ (Nat.le_succ _) _)
set_option maxHeartbeats 1000000 in
theorem rcount_a1 (s r a p : Int) (k : Bool) (w : World) (hv : vM s r = true) (ha : a < 0) :
    Calls Try.prog 11 #[.agg #[.int .i64 s, .int .i64 r, .bool k], .int .i64 a, .int .i64 p] w
      fun e w' => e = .returned (.tuple #[.agg #[.int .i64 0, .int .i64 0, .bool false], .int .i64 1]) ∧ Below w.heap.size w w' := by
  have t1 : decide (a < 0) = true := by simp; omega
  go_enter Try.func11, Try.ntmps11
  go_wp2_with fail
  refine (refValid s r k _).mono ?_
  rintro e w1 ⟨rfl, hb1⟩
  obtain ⟨k1, k2, hz1, h1⟩ := box2 hb1
  obtain ⟨d0, d1, d2, f0, f1, f2⟩ := blk3 k2
  clear k1 k2
  rw [hv]
  go_wp2
  refine bodyPost_ret (v := .tuple #[.agg #[.int .i64 0, .int .i64 0, .bool false], .int .i64 1]) (by simp [results, Try.results11, go_sem, d0, d1, d2]) rfl ⟨rfl, ?_⟩
  repeat (first | exact h1 | apply bel_alloc | refine Below.setCell ?_ (Nat.le_succ _) _)
set_option maxHeartbeats 1000000 in
theorem rcount_a2 (s r a p : Int) (k : Bool) (w : World) (hv : vM s r = true) (ha : 80 < a) :
    Calls Try.prog 11 #[.agg #[.int .i64 s, .int .i64 r, .bool k], .int .i64 a, .int .i64 p] w
      fun e w' => e = .returned (.tuple #[.agg #[.int .i64 0, .int .i64 0, .bool false], .int .i64 1]) ∧ Below w.heap.size w w' := by
  have t1 : decide (a < 0) = false := by simp; omega
  have t2 : decide (80 < a) = true := by simp; omega
  go_enter Try.func11, Try.ntmps11
  go_wp2_with fail
  refine (refValid s r k _).mono ?_
  rintro e w1 ⟨rfl, hb1⟩
  obtain ⟨k1, k2, hz1, h1⟩ := box2 hb1
  obtain ⟨d0, d1, d2, f0, f1, f2⟩ := blk3 k2
  clear k1 k2
  rw [hv]
  go_wp2
  refine bodyPost_ret (v := .tuple #[.agg #[.int .i64 0, .int .i64 0, .bool false], .int .i64 1]) (by simp [results, Try.results11, go_sem, d0, d1, d2]) rfl ⟨rfl, ?_⟩
  repeat (first | exact h1 | apply bel_alloc | refine Below.setCell ?_ (Nat.le_succ _) _)
set_option maxHeartbeats 1000000 in
theorem rcount_p1 (s r a p : Int) (k : Bool) (w : World) (hv : vM s r = true) (ha : 0 ≤ a ∧ a ≤ 80) (hp : p < 0) :
    Calls Try.prog 11 #[.agg #[.int .i64 s, .int .i64 r, .bool k], .int .i64 a, .int .i64 p] w
      fun e w' => e = .returned (.tuple #[.agg #[.int .i64 0, .int .i64 0, .bool false], .int .i64 1]) ∧ Below w.heap.size w w' := by
  have t1 : decide (a < 0) = false := by simp; omega
  have t2 : decide (80 < a) = false := by simp; omega
  have t3 : decide (p < 0) = true := by simp; omega
  go_enter Try.func11, Try.ntmps11
  go_wp2_with fail
  refine (refValid s r k _).mono ?_
  rintro e w1 ⟨rfl, hb1⟩
  obtain ⟨k1, k2, hz1, h1⟩ := box2 hb1
  obtain ⟨d0, d1, d2, f0, f1, f2⟩ := blk3 k2
  clear k1 k2
  rw [hv]
  go_wp2
  refine bodyPost_ret (v := .tuple #[.agg #[.int .i64 0, .int .i64 0, .bool false], .int .i64 1]) (by simp [results, Try.results11, go_sem, d0, d1, d2]) rfl ⟨rfl, ?_⟩
  repeat (first | exact h1 | apply bel_alloc | refine Below.setCell ?_ (Nat.le_succ _) _)
set_option maxHeartbeats 1000000 in
theorem rcount_p2 (s r a p : Int) (k : Bool) (w : World) (hv : vM s r = true) (ha : 0 ≤ a ∧ a ≤ 80) (hp : 3 < p) :
    Calls Try.prog 11 #[.agg #[.int .i64 s, .int .i64 r, .bool k], .int .i64 a, .int .i64 p] w
      fun e w' => e = .returned (.tuple #[.agg #[.int .i64 0, .int .i64 0, .bool false], .int .i64 1]) ∧ Below w.heap.size w w' := by
  have t1 : decide (a < 0) = false := by simp; omega
  have t2 : decide (80 < a) = false := by simp; omega
  have t3 : decide (p < 0) = false := by simp; omega
  go_enter Try.func11, Try.ntmps11
  go_wp2_with fail
  refine (refValid s r k _).mono ?_
  rintro e w1 ⟨rfl, hb1⟩
  obtain ⟨k1, k2, hz1, h1⟩ := box2 hb1
  obtain ⟨d0, d1, d2, f0, f1, f2⟩ := blk3 k2
  clear k1 k2
  rw [hv]
  go_wp2
  refine bodyPost_ret (v := .tuple #[.agg #[.int .i64 0, .int .i64 0, .bool false], .int .i64 1]) (by simp [results, Try.results11, go_sem, d0, d1, d2]) rfl ⟨rfl, ?_⟩
  repeat (first | exact h1 | apply bel_alloc | refine Below.setCell ?_ (Nat.le_succ _) _)
theorem rcount_any (s r a p : Int) (k : Bool) (w : World) :
    Calls Try.prog 11 #[.agg #[.int .i64 s, .int .i64 r, .bool k], .int .i64 a, .int .i64 p] w
      fun e w' => e = .returned (.tuple #[.agg #[.int .i64 (zI (cE s r a p k) s), .int .i64 (zI (cE s r a p k) (nR r a p k)), .bool (zB (cE s r a p k) k)], .int .i64 (cE s r a p k)]) ∧ Below w.heap.size w w' := by
  cases hv : vM s r
  · exact (rcount_v s r a p k w hv).mono fun e w' h => ret_m2 (by simp [cE, zI, zB, hv]) h.2 h.1
  · cases ha : upB 80 a
    · have ha' : a < 0 ∨ 80 < a := by simp [upB] at ha; omega
      rcases ha' with h | h
      · exact (rcount_a1 s r a p k w hv h).mono fun e w' h => ret_m2 (by simp [cE, zI, zB, ha]) h.2 h.1
      · exact (rcount_a2 s r a p k w hv h).mono fun e w' h => ret_m2 (by simp [cE, zI, zB, ha]) h.2 h.1
    · have hab : 0 ≤ a ∧ a ≤ 80 := by simpa [upB] using ha
      cases hp : upB 3 p
      · have hp' : p < 0 ∨ 3 < p := by simp [upB] at hp; omega
        rcases hp' with h | h
        · exact (rcount_p1 s r a p k w hv hab h).mono fun e w' h => ret_m2 (by simp [cE, zI, zB, hp]) h.2 h.1
        · exact (rcount_p2 s r a p k w hv hab h).mono fun e w' h => ret_m2 (by simp [cE, zI, zB, hp]) h.2 h.1
      · cases k
        · cases hn : vM s (r + 2300 * a * p)
          · exact (rcount_fwdBad s r a p w hv ha hp hn).mono fun e w' h => ret_m2 (by simp [cE, zI, zB, hv, ha, hp, nR, hn]) h.2 h.1
          · exact (rcount_fwd s r a p w hv ha hp hn).mono fun e w' h => ret_m2 (by simp [cE, zI, zB, hv, ha, hp, nR, hn]) h.2 h.1
        · cases hn : vM s (r - 2300 * a * p)
          · exact (rcount_bwdBad s r a p w hv ha hp hn).mono fun e w' h => ret_m2 (by simp [cE, zI, zB, hv, ha, hp, nR, hn]) h.2 h.1
          · exact (rcount_bwd s r a p w hv ha hp hn).mono fun e w' h => ret_m2 (by simp [cE, zI, zB, hv, ha, hp, nR, hn]) h.2 h.1
end Go.Proofs.Ytgbmbpllfjpdmaa
