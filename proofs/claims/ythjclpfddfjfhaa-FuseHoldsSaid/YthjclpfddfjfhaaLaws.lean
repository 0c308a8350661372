/-
  THE WALKS OF THE LAWS over package fuse, first part: the examples, FuseMatchesReference, FuseRated, FuseHolds, FuseStronger.
-/
import Derived.Test.YthjclpfddfjfhaaRef
namespace Go.Proofs.Ythjclpfddfjfhaa
open Go.RowKit
set_option linter.unusedVariables false
attribute [local go_sem ↓] Go.wp_at_zero Go.wp_at_succ

theorem RZ_of_block {w : World} {g : Nat} {cs : Array Value} {t : TypeId} {len : Nat} {z : Nat → Int} (h : w.heap[g]? = some (.cells cs t (0, 0))) (hc : ∀ i, i < len → cs[i]? = some (.int .i64 (z i))) : RZ w (some ⟨g, 0, none⟩) len z := fun i hi =>
  ⟨g, 0, rfl, (Array.getElem?_eq_some_iff.1 h).1, by rw [Nat.zero_add, cell_of_row w g i cs t (0, 0) h]; exact hc i hi⟩

theorem example_any (w : World) : Calls Try.prog 19 #[] w fun e w' => e = .returned (.agg #[.int .i64 10, .int .i64 100]) ∧ Below w.heap.size w w' := by
  go_enter Try.func19, Try.ntmps19
  go_wp2
  exact bodyPost_ret (v := .agg #[.int .i64 10, .int .i64 100]) (by simp [results, Try.results19, go_sem]) rfl ⟨rfl, bel_alloc (Below.refl _ _) _⟩

def zA : Nat → Int := fun i => [12, 12, 12, 0].getD i 0
def zB : Nat → Int := fun i => [12, 12, 0, 12, 12].getD i 0
theorem x_m1 (w : World) : Calls Try.prog 13 #[.agg #[.int .i64 10, .int .i64 100], .slice (some ⟨w.heap.size, 0, none⟩) 4 4] (w.alloc (.cells #[.int .i64 12, .int .i64 12, .int .i64 12, .int .i64 0] 3))
    fun e w' => e = .returned (.tuple #[.int .i64 2, .int .i64 0]) ∧ Below (w.alloc (.cells #[.int .i64 12, .int .i64 12, .int .i64 12, .int .i64 0] 3)).heap.size (w.alloc (.cells #[.int .i64 12, .int .i64 12, .int .i64 12, .int .i64 0] 3)) w' :=
  (melts_any 10 100 _ 4 4 zA _ (by omega) (RZ_of_block (heap_alloc_new w _) (fun i hi => by
    have : i = 0 ∨ i = 1 ∨ i = 2 ∨ i = 3 := by omega
    rcases this with rfl | rfl | rfl | rfl <;> rfl))).mono fun e w' x => ⟨x.1.trans (ret_two (by decide +kernel) (by decide +kernel)), x.2⟩
theorem x_m2 (w : World) : Calls Try.prog 13 #[.agg #[.int .i64 10, .int .i64 100], .slice (some ⟨w.heap.size, 0, none⟩) 5 5] (w.alloc (.cells #[.int .i64 12, .int .i64 12, .int .i64 0, .int .i64 12, .int .i64 12] 3))
    fun e w' => e = .returned (.tuple #[.int .i64 (-1), .int .i64 0]) ∧ Below (w.alloc (.cells #[.int .i64 12, .int .i64 12, .int .i64 0, .int .i64 12, .int .i64 12] 3)).heap.size (w.alloc (.cells #[.int .i64 12, .int .i64 12, .int .i64 0, .int .i64 12, .int .i64 12] 3)) w' :=
  (melts_any 10 100 _ 5 5 zB _ (by omega) (RZ_of_block (heap_alloc_new w _) (fun i hi => by
    have : i = 0 ∨ i = 1 ∨ i = 2 ∨ i = 3 ∨ i = 4 := by omega
    rcases this with rfl | rfl | rfl | rfl | rfl <;> rfl))).mono fun e w' x => ⟨x.1.trans (ret_two (by decide +kernel) (by decide +kernel)), x.2⟩
theorem x_n (t a v e : Int) (w : World) (h1 : nV 10 100 t a = v) (h2 : nE 10 100 t a = e) : Calls Try.prog 11 #[.agg #[.int .i64 10, .int .i64 100], .int .i64 t, .int .i64 a] w
    fun d w' => d = .returned (.tuple #[.int .i64 v, .int .i64 e]) ∧ Below w.heap.size w w' := (next_any 10 100 t a w).mono fun d w' x => ⟨x.1.trans (ret_two h1 h2), x.2⟩
theorem x_h (t a v e : Int) (w : World) (h1 : oV 10 100 t a = v) (h2 : nE 10 100 t a = e) : Calls Try.prog 15 #[.agg #[.int .i64 10, .int .i64 100], .int .i64 t, .int .i64 a] w
    fun d w' => d = .returned (.tuple #[.int .i64 v, .int .i64 e]) ∧ Below w.heap.size w w' := (holds_any 10 100 t a w).mono fun d w' x => ⟨x.1.trans (ret_two h1 h2), x.2⟩

set_option maxHeartbeats 2000000 in
set_option maxRecDepth 100000 in
theorem head_any (w : World) : Calls Try.prog 10 #[] w fun e w' => e = .returned (.bool true) ∧ Below w.heap.size w w' := by
  have h := Below.refl w.heap.size w
  go_enter Try.func10, Try.ntmps10
  go_wp2_with fail
  refine (example_any _).mono ?_
  rintro e w1 ⟨rfl, hb⟩
  have h := bel_step h hb
  clear hb
  go_wp2_with fail
  refine (x_n 0 12 44 0 _ (by decide +kernel) (by decide +kernel)).mono ?_
  rintro e w2 ⟨rfl, hb⟩
  have h := bel_step h hb
  clear hb
  go_wp2_with fail
  refine (example_any _).mono ?_
  rintro e w3 ⟨rfl, hb⟩
  have h := bel_step h hb
  clear hb
  go_wp2_with fail
  refine (x_n 44 5 0 0 _ (by decide +kernel) (by decide +kernel)).mono ?_
  rintro e w4 ⟨rfl, hb⟩
  have h := bel_step h hb
  clear hb
  go_wp2_with fail
  refine (example_any _).mono ?_
  rintro e w5 ⟨rfl, hb⟩
  have h := bel_step h hb
  clear hb
  go_wp2_with fail
  refine (x_m1 _).mono ?_
  rintro e w6 ⟨rfl, hb⟩
  have h := bel_step (bel_alloc h _) hb
  clear hb
  go_wp2_with fail
  refine (example_any _).mono ?_
  rintro e w7 ⟨rfl, hb⟩
  have h := bel_step h hb
  clear hb
  go_wp2_with fail
  refine (x_m2 _).mono ?_
  rintro e w8 ⟨rfl, hb⟩
  have h := bel_step (bel_alloc h _) hb
  clear hb
  go_wp2_with fail
  refine (example_any _).mono ?_
  rintro e w9 ⟨rfl, hb⟩
  have h := bel_step h hb
  clear hb
  go_wp2_with fail
  refine (x_h 0 12 2 0 _ (by decide +kernel) (by decide +kernel)).mono ?_
  rintro e w10 ⟨rfl, hb⟩
  have h := bel_step h hb
  clear hb
  go_wp2_with fail
  refine (example_any _).mono ?_
  rintro e w11 ⟨rfl, hb⟩
  have h := bel_step h hb
  clear hb
  go_wp2_with fail
  refine (x_h 0 10 (-1) 0 _ (by decide +kernel) (by decide +kernel)).mono ?_
  rintro e w12 ⟨rfl, hb⟩
  have h := bel_step h hb
  clear hb
  go_wp2_with fail
  refine (example_any _).mono ?_
  rintro e w13 ⟨rfl, hb⟩
  have h := bel_step h hb
  clear hb
  go_wp2_with fail
  refine (x_n 101 0 0 1 _ (by decide +kernel) (by decide +kernel)).mono ?_
  rintro e w14 ⟨rfl, hb⟩
  have h := bel_step h hb
  clear hb
  go_wp2
  go_ret
  exact ⟨rfl, h⟩

/-- what 'currents' returns -/
def cuB (z : Nat → Int) (len : Nat) (m : Int) : Bool := decide (∀ i, i < len → 0 ≤ z i ∧ z i ≤ m) && decide ((len : Int) ≤ 10000)
theorem cuB_iff {z : Nat → Int} {len : Nat} {m : Int} : cuB z len m = true ↔ (∀ i, i < len → 0 ≤ z i ∧ z i ≤ m) ∧ len ≤ 10000 := by
  simp only [cuB, Bool.and_eq_true, decide_eq_true_eq]
  exact ⟨fun x => ⟨x.1, by omega⟩, fun x => ⟨x.1, by omega⟩⟩

set_option maxHeartbeats 2000000 in
set_option maxRecDepth 100000 in
theorem currents_any (A : Option Addr) (len cap : Nat) (z : Nat → Int) (m : Int) (w : World) (hl : len ≤ 9223372036854775807) (hR : RZ w A len z) :
    Calls Try.prog 18 #[.slice A len cap, .int .i64 m] w fun e w' => e = .returned (.bool (cuB z len m)) ∧ w = w' := by
  have HR := Lib.hid hR
  clear hR
  go_enter Try.func18, Try.ntmps18
  go_wp2
  go_loop [5] (fun i => ∃ k : Nat, k ≤ len ∧ i = .int .i64 k ∧ ∀ j, j < k → 0 ≤ z j ∧ z j ≤ m) (fun i => len - (intOf i).toNat)
  case atStart => exact ⟨0, Nat.zero_le _, rfl, fun j hj => by omega⟩
  case round =>
    obtain ⟨k, hk, rfl, hall⟩ := hrel
    have HA := Lib.hid hall
    clear hall
    by_cases hlt : k < len
    · obtain ⟨b, o, rfl, hb, hc⟩ := HR.out k hlt
      by_cases h0 : 0 ≤ z k
      · by_cases h1 : z k ≤ m
        · go_wp2
          go_round
          case rel => exact ⟨k + 1, by omega, by go_num, all_snoc HA.out ⟨h0, h1⟩⟩
          case measure => simp [intOf]; omega
        · have h2 : m < z k := by omega
          go_wp2
          go_ret
          exact ⟨ret_bool (by
            have : ¬ cuB z len m = true := fun hx => by have := (cuB_iff.1 hx).1 k hlt; omega
            simpa using this), rfl⟩
      · have h2 : z k < 0 := by omega
        go_wp2
        go_ret
        exact ⟨ret_bool (by
          have : ¬ cuB z len m = true := fun hx => by have := (cuB_iff.1 hx).1 k hlt; omega
          simpa using this), rfl⟩
    · obtain rfl : k = len := by omega
      go_wp2
      go_ret
      exact ⟨ret_bool (by simp only [cuB]; rw [decide_eq_true HA.out, Bool.true_and]), rfl⟩

set_option maxHeartbeats 2000000 in
set_option maxRecDepth 100000 in
theorem walk_matches (r h t a : Int) (A : Option Addr) (len cap : Nat) (z : Nat → Int) (w : World) (hl : len ≤ 9223372036854775807) (hR : RZ w A len z) :
    Calls Try.prog 3 #[.agg #[.int .i64 r, .int .i64 h], .int .i64 t, .slice A len cap, .int .i64 a] w fun e w' => e = .returned (.bool true) ∧ Below w.heap.size w w' := by
  by_cases hlen : 12000 < len
  · go_enter Try.func3, Try.ntmps3
    go_wp2_with fail
    refine (head_any _).mono ?_
    rintro e w1 ⟨rfl, hb⟩
    have mf := (FB.new w r h).keep hb
    obtain ⟨c0, c1⟩ := mf.cells
    have h0 := bel_step (bel_alloc (Below.refl w.heap.size w) _) hb
    clear hb
    go_wp2_with fail
    go_ret
    exact ⟨rfl, h0⟩
  · have HR := Lib.hid hR
    clear hR
    go_enter Try.func3, Try.ntmps3
    go_wp2_with fail
    refine (head_any _).mono ?_
    rintro e w1 ⟨rfl, hb⟩
    have mf := (FB.new w r h).keep hb
    obtain ⟨c0, c1⟩ := mf.cells
    have h0 := bel_step (bel_alloc (Below.refl w.heap.size w) _) hb
    clear hb
    go_wp2_with fail
    refine (next_any r h t a _).mono ?_
    rintro e w2 ⟨rfl, hb⟩
    have mf := mf.keep hb
    clear c0 c1
    obtain ⟨c0, c1⟩ := mf.cells
    have h0 := bel_step h0 hb
    clear hb
    go_wp2_with fail
    refine (rnext r h t a _).mono ?_
    rintro e w3 ⟨rfl, hb⟩
    have mf := mf.keep hb
    clear c0 c1
    obtain ⟨c0, c1⟩ := mf.cells
    have h0 := bel_step h0 hb
    clear hb
    go_wp2_with fail
    refine (melts_any r h A len cap z _ hl (HR.out.keep h0)).mono ?_
    rintro e w4 ⟨rfl, hb⟩
    have mf := mf.keep hb
    clear c0 c1
    obtain ⟨c0, c1⟩ := mf.cells
    have h0 := bel_step h0 hb
    clear hb
    go_wp2_with fail
    refine (rmelts r h A len cap z _ hl (HR.out.keep h0)).mono ?_
    rintro e w5 ⟨rfl, hb⟩
    have mf := mf.keep hb
    clear c0 c1
    obtain ⟨c0, c1⟩ := mf.cells
    have h0 := bel_step h0 hb
    clear hb
    go_wp2_with fail
    refine (holds_any r h t a _).mono ?_
    rintro e w6 ⟨rfl, hb⟩
    have mf := mf.keep hb
    clear c0 c1
    obtain ⟨c0, c1⟩ := mf.cells
    have h0 := bel_step h0 hb
    clear hb
    go_wp2_with fail
    refine (rholds r h t a _).mono ?_
    rintro e w7 ⟨rfl, hb⟩
    have mf := mf.keep hb
    clear c0 c1
    obtain ⟨c0, c1⟩ := mf.cells
    have h0 := bel_step h0 hb
    clear hb
    go_wp2
    go_ret
    exact ⟨rfl, h0⟩

end Go.Proofs.Ythjclpfddfjfhaa
