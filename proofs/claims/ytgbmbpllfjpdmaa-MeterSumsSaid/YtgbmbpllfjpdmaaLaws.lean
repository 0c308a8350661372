/-
  THE WALKS OF THE LAWS over package meter, first part: meters in memory, the examples, MeterMatchesReference.
-/
import Derived.Test.YtgbmbpllfjpdmaaWalksb
namespace Go.Proofs.Ytgbmbpllfjpdmaa
open Go.RowKit
set_option linter.unusedVariables false

/-- block b of w is just this meter -/
def MB (w : World) (b : Nat) (s r : Int) (k : Bool) : Prop := w.heap[b]? = some (.cells #[.int .i64 s, .int .i64 r, .bool k] 23)
theorem MB.lt {w : World} {b : Nat} {s r : Int} {k : Bool} (h : MB w b s r k) : b < w.heap.size := by
  rcases Nat.lt_or_ge b w.heap.size with hlt | hge
  · exact hlt
  · unfold MB at h; rw [Array.getElem?_eq_none hge] at h; cases h
theorem MB.new (w : World) (s r : Int) (k : Bool) : MB (w.alloc (.cells #[.int .i64 s, .int .i64 r, .bool k] 23)) w.heap.size s r k := heap_alloc_new w _
theorem MB.new2 (w : World) (o : Obj) (s r : Int) (k : Bool) : MB ((w.alloc o).alloc (.cells #[.int .i64 s, .int .i64 r, .bool k] 23)) (w.heap.size + 1) s r k := by
  have := heap_alloc_new (w.alloc o) (.cells #[.int .i64 s, .int .i64 r, .bool k] 23)
  simpa [MB] using this
theorem MB.alloc {w : World} {b : Nat} {s r : Int} {k : Bool} (h : MB w b s r k) (o : Obj) : MB (w.alloc o) b s r k := (Below.heap_alloc w o b h.lt).trans h
theorem MB.keep {w w' : World} {b : Nat} {s r : Int} {k : Bool} (h : MB w b s r k) (hb : Below w.heap.size w w') : MB w' b s r k := (hb.block b h.lt).trans h
theorem MB.drew {w : World} {b : Nat} {s r : Int} {k : Bool} (h : MB w b s r k) : MB w.drew b s r k := h
/-- what the walk reads of it, and that it may be written -/
theorem MB.get {w : World} {b : Nat} {s r : Int} {k : Bool} (h : MB w b s r k) :
    w.cell? ⟨b, 0, none⟩ = some (.int .i64 s) ∧ w.cell? ⟨b, 1, none⟩ = some (.int .i64 r) ∧ w.cell? ⟨b, 2, none⟩ = some (.bool k) ∧ b < w.heap.size ∧ b < w.heap.size + 1 := by
  obtain ⟨a, c, d, _, _, _⟩ := blk3 h
  exact ⟨a, c, d, h.lt, Nat.lt_succ_of_lt h.lt⟩

theorem x_count_f : ∀ w : World, Calls Try.prog 10 #[.agg #[.int .i64 0, .int .i64 100, .bool false], .int .i64 16, .int .i64 3] w
    fun e w' => e = .returned (.tuple #[.agg #[.int .i64 0, .int .i64 110500, .bool false], .int .i64 0]) ∧ Below w.heap.size w w' := fun w => count_fwd 0 100 16 3 w (by decide) (by decide) (by decide) (by decide)
theorem x_count_b : ∀ w : World, Calls Try.prog 10 #[.agg #[.int .i64 0, .int .i64 100, .bool true], .int .i64 16, .int .i64 3] w
    fun e w' => e = .returned (.tuple #[.agg #[.int .i64 0, .int .i64 (-110300), .bool true], .int .i64 0]) ∧ Below w.heap.size w w' := fun w => count_bwd 0 100 16 3 w (by decide) (by decide) (by decide) (by decide)
theorem x_en1 : ∀ w : World, Calls Try.prog 14 #[.agg #[.int .i64 0, .int .i64 0, .bool false], .agg #[.int .i64 0, .int .i64 7199, .bool false]] w
    fun e w' => e = .returned (.tuple #[.int .i64 1, .int .i64 0]) ∧ Below w.heap.size w w' := fun w => energy_y 0 0 0 7199 false false w (by decide) (by decide) rfl (by decide)
theorem x_en2 : ∀ w : World, Calls Try.prog 14 #[.agg #[.int .i64 0, .int .i64 0, .bool false], .agg #[.int .i64 0, .int .i64 7200, .bool false]] w
    fun e w' => e = .returned (.tuple #[.int .i64 2, .int .i64 0]) ∧ Below w.heap.size w w' := fun w => energy_y 0 0 0 7200 false false w (by decide) (by decide) rfl (by decide)
theorem x_en3 : ∀ w : World, Calls Try.prog 14 #[.agg #[.int .i64 0, .int .i64 5, .bool false], .agg #[.int .i64 0, .int .i64 4, .bool false]] w
    fun e w' => e = .returned (.tuple #[.int .i64 0, .int .i64 11]) ∧ Below w.heap.size w w' := fun w => energy_l 0 5 0 4 false false w (by decide) (by decide) rfl (by decide)
theorem x_en4 : ∀ w : World, Calls Try.prog 14 #[.agg #[.int .i64 0, .int .i64 0, .bool false], .agg #[.int .i64 1, .int .i64 0, .bool false]] w
    fun e w' => e = .returned (.tuple #[.int .i64 0, .int .i64 4]) ∧ Below w.heap.size w w' := fun w => energy_d 0 0 1 0 false false w (by decide) (by decide) (by decide)
theorem x_sw1 : ∀ w : World, Calls Try.prog 12 #[.agg #[.int .i64 0, .int .i64 (-110300), .bool true], .int .i64 7, .int .i64 30] w
    fun e w' => e = .returned (.tuple #[.agg #[.int .i64 7, .int .i64 30, .bool false], .int .i64 0]) ∧ Below w.heap.size w w' := fun w => swap_y 0 (-110300) 7 30 true w (by decide) (by decide) (by decide)
theorem x_sw2 : ∀ w : World, Calls Try.prog 12 #[.agg #[.int .i64 0, .int .i64 (-110300), .bool true], .int .i64 0, .int .i64 30] w
    fun e w' => e = .returned (.tuple #[.agg #[.int .i64 0, .int .i64 0, .bool false], .int .i64 5]) ∧ Below w.heap.size w w' := fun w => swap_t 0 (-110300) 0 30 true w (by decide) (by decide) rfl

set_option maxHeartbeats 2000000 in
set_option maxRecDepth 100000 in
theorem head_any (w : World) : Calls Try.prog 9 #[] w fun e w' => e = .returned (.bool true) ∧ Below w.heap.size w w' := by
  go_enter Try.func9, Try.ntmps9
  go_wp2_with fail
  refine (x_count_f _).mono ?_
  rintro e w1 ⟨rfl, hb⟩
  have h : Below w.heap.size w w1 := hb
  clear hb
  go_wp2_with fail
  refine (x_count_b _).mono ?_
  rintro e w2 ⟨rfl, hb⟩
  have ma := (MB.new w1 0 110500 false).keep hb
  have h := bel_step (bel_alloc h _) hb
  clear hb
  go_wp2_with fail
  refine (x_en1 _).mono ?_
  rintro e w3 ⟨rfl, hb⟩
  have ma := (ma.alloc _).keep hb
  have mb := (MB.new w2 0 (-110300) true).keep hb
  have h := bel_step (bel_alloc h _) hb
  clear hb
  go_wp2_with fail
  refine (x_en2 _).mono ?_
  rintro e w4 ⟨rfl, hb⟩
  have ma := ma.keep hb
  have mb := mb.keep hb
  have h := bel_step h hb
  clear hb
  go_wp2_with fail
  refine (x_en3 _).mono ?_
  rintro e w5 ⟨rfl, hb⟩
  have ma := ma.keep hb
  have mb := mb.keep hb
  have h := bel_step h hb
  clear hb
  go_wp2_with fail
  refine (x_en4 _).mono ?_
  rintro e w6 ⟨rfl, hb⟩
  have ma := ma.keep hb
  have mb := mb.keep hb
  have h := bel_step h hb
  clear hb
  obtain ⟨b0, b1, b2, b3, b4⟩ := mb.get
  go_wp2_with fail
  refine (x_sw1 _).mono ?_
  rintro e w7 ⟨rfl, hb⟩
  have ma := ma.keep hb
  have mb := mb.keep hb
  have h := bel_step h hb
  clear hb b0 b1 b2 b3 b4
  obtain ⟨b0, b1, b2, b3, b4⟩ := mb.get
  go_wp2_with fail
  refine (x_sw2 _).mono ?_
  rintro e w8 ⟨rfl, hb⟩
  have ma := (ma.alloc _).keep hb
  have mb := (mb.alloc _).keep hb
  have mk := (MB.new w7 7 30 false).keep hb
  have h := bel_step (bel_alloc h _) hb
  clear hb b0 b1 b2 b3 b4
  obtain ⟨a0, a1, a2, a3, a4⟩ := ma.get
  obtain ⟨b0, b1, b2, b3, b4⟩ := mb.get
  obtain ⟨k0, k1, k2, k3, k4⟩ := mk.get
  go_wp2
  go_ret
  exact ⟨rfl, bel_alloc h _⟩

set_option maxHeartbeats 2000000 in
set_option maxRecDepth 100000 in
theorem walk_matches (s r n m a p : Int) (k j : Bool) (w : World) :
    Calls Try.prog 3 #[.agg #[.int .i64 s, .int .i64 r, .bool k], .agg #[.int .i64 n, .int .i64 m, .bool j], .int .i64 a, .int .i64 p] w fun e w' => e = .returned (.bool true) ∧ Below w.heap.size w w' := by
  go_enter Try.func3, Try.ntmps3
  go_wp2_with fail
  refine (head_any _).mono ?_
  rintro e w1 ⟨rfl, hb⟩
  have ma := ((MB.new w s r k).alloc _).keep hb
  have mb := (MB.new2 w _ n m j).keep hb
  have h := bel_step (bel_alloc (bel_alloc (Below.refl w.heap.size w) _) _) hb
  clear hb
  obtain ⟨a0, a1, a2, a3, a4⟩ := ma.get
  obtain ⟨b0, b1, b2, b3, b4⟩ := mb.get
  go_wp2_with fail
  refine (count_any s r a p k _).mono ?_
  rintro e w2 ⟨rfl, hb⟩
  have ma := ma.keep hb
  have mb := mb.keep hb
  have h := bel_step h hb
  clear hb
  clear a0 a1 a2 a3 a4 b0 b1 b2 b3 b4
  obtain ⟨a0, a1, a2, a3, a4⟩ := ma.get
  obtain ⟨b0, b1, b2, b3, b4⟩ := mb.get
  go_wp2_with fail
  refine (rcount_any s r a p k _).mono ?_
  rintro e w3 ⟨rfl, hb⟩
  have ma := (ma.alloc _).keep hb
  have mb := (mb.alloc _).keep hb
  have mx := (MB.new w2 _ _ _).keep hb
  have h := bel_step (bel_alloc h _) hb
  clear hb
  clear a0 a1 a2 a3 a4 b0 b1 b2 b3 b4
  obtain ⟨a0, a1, a2, a3, a4⟩ := ma.get
  obtain ⟨b0, b1, b2, b3, b4⟩ := mb.get
  go_wp2_with fail
  refine (swap_any s r a p k _).mono ?_
  rintro e w4 ⟨rfl, hb⟩
  have ma := (ma.alloc _).keep hb
  have mb := (mb.alloc _).keep hb
  have mx := (mx.alloc _).keep hb
  have my := (MB.new w3 _ _ _).keep hb
  have h := bel_step (bel_alloc h _) hb
  clear hb
  clear a0 a1 a2 a3 a4 b0 b1 b2 b3 b4
  obtain ⟨a0, a1, a2, a3, a4⟩ := ma.get
  obtain ⟨b0, b1, b2, b3, b4⟩ := mb.get
  go_wp2_with fail
  refine (rswap_any s r a p k _).mono ?_
  rintro e w5 ⟨rfl, hb⟩
  have ma := (ma.alloc _).keep hb
  have mb := (mb.alloc _).keep hb
  have mx := (mx.alloc _).keep hb
  have my := (my.alloc _).keep hb
  have mz := (MB.new w4 _ _ _).keep hb
  have h := bel_step (bel_alloc h _) hb
  clear hb
  clear a0 a1 a2 a3 a4 b0 b1 b2 b3 b4
  obtain ⟨a0, a1, a2, a3, a4⟩ := ma.get
  obtain ⟨b0, b1, b2, b3, b4⟩ := mb.get
  go_wp2_with fail
  refine (energy_any s r n m k j _).mono ?_
  rintro e w6 ⟨rfl, hb⟩
  have ma := (ma.alloc _).keep hb
  have mb := (mb.alloc _).keep hb
  have mx := (mx.alloc _).keep hb
  have my := (my.alloc _).keep hb
  have mz := (mz.alloc _).keep hb
  have mu := (MB.new w5 _ _ _).keep hb
  have h := bel_step (bel_alloc h _) hb
  clear hb
  clear a0 a1 a2 a3 a4 b0 b1 b2 b3 b4
  obtain ⟨a0, a1, a2, a3, a4⟩ := ma.get
  obtain ⟨b0, b1, b2, b3, b4⟩ := mb.get
  go_wp2_with fail
  refine (renergy_any s r n m k j _).mono ?_
  rintro e w7 ⟨rfl, hb⟩
  have ma := ma.keep hb
  have mb := mb.keep hb
  have mx := mx.keep hb
  have my := my.keep hb
  have mz := mz.keep hb
  have mu := mu.keep hb
  have h := bel_step h hb
  clear hb
  clear a0 a1 a2 a3 a4 b0 b1 b2 b3 b4
  obtain ⟨x0, x1, x2, x3, x4⟩ := mx.get
  obtain ⟨y0, y1, y2, y3, y4⟩ := my.get
  obtain ⟨z0, z1, z2, z3, z4⟩ := mz.get
  obtain ⟨u0, u1, u2, u3, u4⟩ := mu.get
  go_wp2
  go_ret
  exact ⟨rfl, h⟩

end Go.Proofs.Ytgbmbpllfjpdmaa
