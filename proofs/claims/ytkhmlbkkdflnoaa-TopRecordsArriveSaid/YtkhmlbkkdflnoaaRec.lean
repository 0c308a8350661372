/-
  THE WALKS over package record, first part: what is valid, the parts, the signature.
-/
import Derived.Test.YtkhmlbkkdflnoaaLink
import Derived.Test.YtkhmlbkkdflnoaaNet
namespace Go.Proofs.Ytkhmlbkkdflnoaa.Rc
open Go.RowKit
open Ch (inB inB_iff lkf)
set_option linter.unusedVariables false
set_option linter.unusedSimpArgs false
attribute [local go_sem ↓] Go.wp_at_zero Go.wp_at_succ

theorem ins_any (n a b : Int) (w : World) : Calls Try.prog 124 #[.int .i64 n, .int .i64 a, .int .i64 b] w fun e w' => e = .returned (.bool (inB n a b)) ∧ w = w' := by
  by_cases h1 : a ≤ n
  · by_cases h2 : n ≤ b
    · go_enter Try.func124, Try.ntmps124
      go_wp2
      go_ret
      exact ⟨ret_bool (by simp [inB, h1, h2]), rfl⟩
    · go_enter Try.func124, Try.ntmps124
      go_wp2
      go_ret
      exact ⟨ret_bool (by simp [inB, h1, h2]), rfl⟩
  · go_enter Try.func124, Try.ntmps124
    go_wp2
    go_ret
    exact ⟨ret_bool (by simp [inB]; omega), rfl⟩
/-- a record that is valid -/
def vRc (x : Nat → Int) : Prop := (1 ≤ x 0 ∧ x 0 ≤ 1000000) ∧ (1 ≤ x 2 ∧ x 2 ≤ 1000000) ∧ (0 ≤ x 1 ∧ x 1 ≤ 15) ∧ (0 ≤ x 3 ∧ x 3 ≤ 7) ∧ (0 ≤ x 4 ∧ x 4 ≤ 7) ∧ (1 ≤ x 5 ∧ x 5 ≤ x 6) ∧ x 6 ≤ 64 ∧ (0 ≤ x 7 ∧ x 7 ≤ 64000000000) ∧ 0 ≤ x 8 ∧ x 8 ≤ 1000000000
set_option maxRecDepth 100000 in
set_option maxHeartbeats 2000000 in
theorem valid_ok (x : Nat → Int) (w : World) (h : vRc x) :
    Calls Try.prog 101 #[.agg #[.int .i64 (x 0), .int .i64 (x 1), .int .i64 (x 2), .int .i64 (x 3), .int .i64 (x 4), .int .i64 (x 5), .int .i64 (x 6), .int .i64 (x 7), .int .i64 (x 8), .int .u64 (x 9), .int .u64 (x 10), .int .u64 (x 11), .int .u64 (x 12)]] w fun e w' => e = .returned (.bool true) ∧ Below w.heap.size w w' := by
  obtain ⟨h0, h2, h1, h3, h4, h5, h6, h7, h8⟩ := h
  have H0 := Lib.hid (fun W => ins_any (x 0) 1 1000000 W)
  have H2 := Lib.hid (fun W => ins_any (x 2) 1 1000000 W)
  have H1 := Lib.hid (fun W => ins_any (x 1) 0 15 W)
  have H3 := Lib.hid (fun W => ins_any (x 3) 0 7 W)
  have H4 := Lib.hid (fun W => ins_any (x 4) 0 7 W)
  have H5 := Lib.hid (fun W => ins_any (x 5) 1 (x 6) W)
  have H7 := Lib.hid (fun W => ins_any (x 7) 0 64000000000 W)
  have H8 := Lib.hid (fun W => ins_any (x 8) 0 1000000000 W)
  rw [inB_iff.2 h0] at H0
  rw [inB_iff.2 h1] at H1
  rw [inB_iff.2 h2] at H2
  rw [inB_iff.2 h3] at H3
  rw [inB_iff.2 h4] at H4
  rw [inB_iff.2 h5] at H5
  rw [inB_iff.2 h7] at H7
  rw [inB_iff.2 h8] at H8
  clear h0 h1 h2 h3 h4 h5 h7 h8
  generalize x 0 = x0 at *
  generalize x 1 = x1 at *
  generalize x 2 = x2 at *
  generalize x 3 = x3 at *
  generalize x 4 = x4 at *
  generalize x 5 = x5 at *
  generalize x 6 = x6 at *
  generalize x 7 = x7 at *
  generalize x 8 = x8 at *
  go_enter Try.func101, Try.ntmps101
  go_wp2_with (first
    | (go_at_call 124; with_reducible refine (H0.out _).mono ?_; rintro e w1 ⟨rfl, rfl⟩)
    | (go_at_call 124; with_reducible refine (H2.out _).mono ?_; rintro e w1 ⟨rfl, rfl⟩)
    | (go_at_call 124; with_reducible refine (H1.out _).mono ?_; rintro e w1 ⟨rfl, rfl⟩)
    | (go_at_call 124; with_reducible refine (H3.out _).mono ?_; rintro e w1 ⟨rfl, rfl⟩)
    | (go_at_call 124; with_reducible refine (H4.out _).mono ?_; rintro e w1 ⟨rfl, rfl⟩)
    | (go_at_call 124; with_reducible refine (H5.out _).mono ?_; rintro e w1 ⟨rfl, rfl⟩)
    | (go_at_call 124; with_reducible refine (H7.out _).mono ?_; rintro e w1 ⟨rfl, rfl⟩)
    | (go_at_call 124; with_reducible refine (H8.out _).mono ?_; rintro e w1 ⟨rfl, rfl⟩))
  go_ret
  exact ⟨rfl, bel_alloc (Below.refl _ _) _⟩
set_option maxRecDepth 100000 in
set_option maxHeartbeats 2000000 in
theorem numbers_any (x : Nat → Int) (w : World) :
    Calls Try.prog 125 #[.agg #[.int .i64 (x 0), .int .i64 (x 1), .int .i64 (x 2), .int .i64 (x 3), .int .i64 (x 4), .int .i64 (x 5), .int .i64 (x 6), .int .i64 (x 7), .int .i64 (x 8), .int .u64 (x 9), .int .u64 (x 10), .int .u64 (x 11), .int .u64 (x 12)]] w fun e w' => e = .returned (.agg #[.int .i64 (x 0), .int .i64 (x 1), .int .i64 (x 2), .int .i64 (x 3), .int .i64 (x 4), .int .i64 (x 5), .int .i64 (x 6), .int .i64 (x 7), .int .i64 (x 8), .int .i64 0, .int .i64 0, .int .i64 0]) ∧ Below w.heap.size w w' := by
  have HB : Hid (∀ o o', Below w.heap.size w ((w.alloc o).alloc o')) := Lib.hid fun o o' => bel_alloc (bel_alloc (Below.refl _ _) o) o'
  generalize x 0 = x0 at *
  generalize x 1 = x1 at *
  generalize x 2 = x2 at *
  generalize x 3 = x3 at *
  generalize x 4 = x4 at *
  generalize x 5 = x5 at *
  generalize x 6 = x6 at *
  generalize x 7 = x7 at *
  generalize x 8 = x8 at *
  go_enter Try.func125, Try.ntmps125
  go_wp2
  refine bodyPost_ret (v := .agg #[.int .i64 x0, .int .i64 x1, .int .i64 x2, .int .i64 x3, .int .i64 x4, .int .i64 x5, .int .i64 x6, .int .i64 x7, .int .i64 x8, .int .i64 0, .int .i64 0, .int .i64 0]) (by simp [results, Try.results125, go_sem]) rfl ⟨rfl, ?_⟩
  exact HB.out _ _
/-- the twelve numbers lie in block B -/
def NB (W : World) (B : Nat) (x : Nat → Int) : Prop := W.heap[B]? = some (.cells #[.int .i64 (x 0), .int .i64 (x 1), .int .i64 (x 2), .int .i64 (x 3), .int .i64 (x 4), .int .i64 (x 5), .int .i64 (x 6), .int .i64 (x 7), .int .i64 (x 8), .int .i64 0, .int .i64 0, .int .i64 0] 211 (0, 0))
theorem NB.keep {W W' : World} {B : Nat} {x : Nat → Int} (h : NB W B x) (hb : Below W.heap.size W W') : NB W' B x := (hb.block _ (Array.getElem?_eq_some_iff.1 h).1).trans h
set_option maxRecDepth 100000 in
set_option maxHeartbeats 2000000 in
theorem part0 (B : Nat) (x : Nat → Int) (w : World) (h : NB w B x) :
    Calls Try.prog 126 #[.int .i64 0, .pointer (some ⟨B, 0, none⟩)] w fun e w' => e = .returned (.agg #[.int .i64 (x 0), .int .i64 (x 1), .int .i64 (x 2), .int .i64 (x 3)]) ∧ Below w.heap.size w w' := by
  have hlt := (Array.getElem?_eq_some_iff.1 h).1
  have harr : ∀ (a : Addr) (c : Nat) (W : World), (Instr.arrayAt 210 (.slice (some a) 4 c)).run Try.prog W = .ok (.pointer (some a)) W := fun a c W => by kernel_rfl
  have c0 : w.cell? ⟨B, 0, none⟩ = some (.int .i64 (x 0)) := by rw [cell_of_row w B _ _ _ (0, 0) h]; rfl
  have c1 : w.cell? ⟨B, 1, none⟩ = some (.int .i64 (x 1)) := by rw [cell_of_row w B _ _ _ (0, 0) h]; rfl
  have c2 : w.cell? ⟨B, 2, none⟩ = some (.int .i64 (x 2)) := by rw [cell_of_row w B _ _ _ (0, 0) h]; rfl
  have c3 : w.cell? ⟨B, 3, none⟩ = some (.int .i64 (x 3)) := by rw [cell_of_row w B _ _ _ (0, 0) h]; rfl
  have HB : Hid (∀ o, Below w.heap.size w (w.alloc o)) := Lib.hid fun o => bel_alloc (Below.refl _ _) o
  clear h
  go_enter Try.func126, Try.ntmps126
  go_wp2
  refine bodyPost_ret (v := .agg #[.int .i64 (x 0), .int .i64 (x 1), .int .i64 (x 2), .int .i64 (x 3)]) (by simp [results, Try.results126, go_sem]) rfl ⟨rfl, ?_⟩
  exact HB.out _
set_option maxRecDepth 100000 in
set_option maxHeartbeats 2000000 in
theorem part1 (B : Nat) (x : Nat → Int) (w : World) (h : NB w B x) :
    Calls Try.prog 126 #[.int .i64 1, .pointer (some ⟨B, 0, none⟩)] w fun e w' => e = .returned (.agg #[.int .i64 (x 4), .int .i64 (x 5), .int .i64 (x 6), .int .i64 (x 7)]) ∧ Below w.heap.size w w' := by
  have hlt := (Array.getElem?_eq_some_iff.1 h).1
  have harr : ∀ (a : Addr) (c : Nat) (W : World), (Instr.arrayAt 210 (.slice (some a) 4 c)).run Try.prog W = .ok (.pointer (some a)) W := fun a c W => by kernel_rfl
  have c0 : w.cell? ⟨B, 4, none⟩ = some (.int .i64 (x 4)) := by rw [cell_of_row w B _ _ _ (0, 0) h]; rfl
  have c1 : w.cell? ⟨B, 5, none⟩ = some (.int .i64 (x 5)) := by rw [cell_of_row w B _ _ _ (0, 0) h]; rfl
  have c2 : w.cell? ⟨B, 6, none⟩ = some (.int .i64 (x 6)) := by rw [cell_of_row w B _ _ _ (0, 0) h]; rfl
  have c3 : w.cell? ⟨B, 7, none⟩ = some (.int .i64 (x 7)) := by rw [cell_of_row w B _ _ _ (0, 0) h]; rfl
  have HB : Hid (∀ o, Below w.heap.size w (w.alloc o)) := Lib.hid fun o => bel_alloc (Below.refl _ _) o
  clear h
  go_enter Try.func126, Try.ntmps126
  go_wp2
  refine bodyPost_ret (v := .agg #[.int .i64 (x 4), .int .i64 (x 5), .int .i64 (x 6), .int .i64 (x 7)]) (by simp [results, Try.results126, go_sem]) rfl ⟨rfl, ?_⟩
  exact HB.out _
set_option maxRecDepth 100000 in
set_option maxHeartbeats 2000000 in
theorem part2 (B : Nat) (x : Nat → Int) (w : World) (h : NB w B x) :
    Calls Try.prog 126 #[.int .i64 2, .pointer (some ⟨B, 0, none⟩)] w fun e w' => e = .returned (.agg #[.int .i64 (x 8), .int .i64 0, .int .i64 0, .int .i64 0]) ∧ Below w.heap.size w w' := by
  have hlt := (Array.getElem?_eq_some_iff.1 h).1
  have harr : ∀ (a : Addr) (c : Nat) (W : World), (Instr.arrayAt 210 (.slice (some a) 4 c)).run Try.prog W = .ok (.pointer (some a)) W := fun a c W => by kernel_rfl
  have c0 : w.cell? ⟨B, 8, none⟩ = some (.int .i64 (x 8)) := by rw [cell_of_row w B _ _ _ (0, 0) h]; rfl
  have c1 : w.cell? ⟨B, 9, none⟩ = some (.int .i64 0) := by rw [cell_of_row w B _ _ _ (0, 0) h]; rfl
  have c2 : w.cell? ⟨B, 10, none⟩ = some (.int .i64 0) := by rw [cell_of_row w B _ _ _ (0, 0) h]; rfl
  have c3 : w.cell? ⟨B, 11, none⟩ = some (.int .i64 0) := by rw [cell_of_row w B _ _ _ (0, 0) h]; rfl
  have HB : Hid (∀ o, Below w.heap.size w (w.alloc o)) := Lib.hid fun o => bel_alloc (Below.refl _ _) o
  clear h
  go_enter Try.func126, Try.ntmps126
  go_wp2
  refine bodyPost_ret (v := .agg #[.int .i64 (x 8), .int .i64 0, .int .i64 0, .int .i64 0]) (by simp [results, Try.results126, go_sem]) rfl ⟨rfl, ?_⟩
  exact HB.out _
/-- the signature's state behind k parts -/
def sgs (key : Int) (q : Nat → Int) : Nat → Int
  | 0 => key
  | k + 1 => lkf (sgs key q k) (q (k * 4)) (q (k * 4 + 1)) (q (k * 4 + 2)) (q (k * 4 + 3))
set_option maxRecDepth 100000 in
set_option maxHeartbeats 2000000 in
theorem sign_any (key : Int) (B : Nat) (q : Nat → Int) (w : World) (hlt : B < w.heap.size) (hq : ∀ j, j < 12 → w.cell? ⟨B, j, none⟩ = some (.int .i64 (q j))) :
    Calls Try.prog 127 #[.int .u64 key, .slice (some ⟨B, 0, none⟩) 3 3] w fun e w' => e = .returned (.int .u64 (sgs key q 3)) ∧ Below w.heap.size w w' := by
  have HQ := Lib.hid hq
  clear hq
  go_enter Try.func127, Try.ntmps127
  go_wp2_with fail
  go_loopw [9, 0] (fun i s wr => ∃ k : Nat, k ≤ 3 ∧ i = .int .i64 k ∧ s = .int .u64 (sgs key q k) ∧ Below w.heap.size w wr) (fun i _ _ => 3 - (intOf i).toNat)
  case atStart => exact ⟨0, by omega, rfl, rfl, Below.refl _ _⟩
  case round =>
    obtain ⟨k, hk, rfl, rfl, hbel⟩ := hrel
    by_cases hlt3 : k < 3
    · have hc : ∀ j, j < 12 → wr.cell? ⟨B, j, none⟩ = some (.int .i64 (q j)) := fun j hj => old_at (HQ.out j hj) hbel
      have c0 := hc (k * 4) (by omega)
      have c1 := hc (k * 4 + 1) (by omega)
      have c2 := hc (k * 4 + 2) (by omega)
      have c3 := hc (k * 4 + 3) (by omega)
      have hs : sgs key q (k + 1) = lkf (sgs key q k) (q (k * 4)) (q (k * 4 + 1)) (q (k * 4 + 2)) (q (k * 4 + 3)) := rfl
      have HLK := Lib.hid (fun W => Ch.link_any (sgs key q k) (q (k * 4)) (q (k * 4 + 1)) (q (k * 4 + 2)) (q (k * 4 + 3)) 0 W)
      rw [← hs] at HLK
      have HB := Lib.hid hbel
      have i0 : (0 : Int) ≤ (k : Int) := by omega
      have i1 : (k : Int) < 3 := by omega
      clear hs hc hbel
      go_wp2_with (go_at_call 38; with_reducible refine (HLK.out _).mono ?_; rintro e w4 ⟨rfl, h4⟩)
      all_goals (try (exfalso; omega))
      refine ⟨⟨k + 1, by omega, by go_num, rfl, bel_step (bel_alloc HB.out _) h4⟩, by simp [intOf] <;> omega⟩
    · obtain rfl : k = 3 := by omega
      go_wp2_with fail
      all_goals (try (exfalso; omega))
      go_ret
      exact ⟨rfl, hbel⟩
/-- the signature of a record -/
def sgn (key : Int) (x : Nat → Int) : Int := lkf (lkf (lkf key (x 0) (x 1) (x 2) (x 3)) (x 4) (x 5) (x 6) (x 7)) (x 8) 0 0 0
theorem sgs_sgn (key : Int) (x : Nat → Int) : sgs key (fun j => if j < 9 then x j else 0) 3 = sgn key x := rfl
theorem sgn_congr {key : Int} {x y : Nat → Int} (h : ∀ j, j < 9 → x j = y j) : sgn key x = sgn key y := by
  unfold sgn
  rw [h 0 (by omega), h 1 (by omega), h 2 (by omega), h 3 (by omega), h 4 (by omega), h 5 (by omega), h 6 (by omega), h 7 (by omega), h 8 (by omega)]
set_option maxRecDepth 100000 in
set_option maxHeartbeats 4000000 in
theorem Sign_any (x : Nat → Int) (key : Int) (w : World) :
    Calls Try.prog 102 #[.agg #[.int .i64 (x 0), .int .i64 (x 1), .int .i64 (x 2), .int .i64 (x 3), .int .i64 (x 4), .int .i64 (x 5), .int .i64 (x 6), .int .i64 (x 7), .int .i64 (x 8), .int .u64 (x 9), .int .u64 (x 10), .int .u64 (x 11), .int .u64 (x 12)], .int .u64 key] w fun e w' => e = .returned (.int .u64 (sgn key x)) ∧ Below w.heap.size w w' := by
  have hmf : ∀ (fn : Fn) (first cap : Array Value) (w : World), (Instr.makeFunc fn first cap).run Try.prog w = .ok (.func fn first cap) w := fun _ _ _ _ => rfl
  have HNU := Lib.hid (fun W => numbers_any x W)
  have HP0 := Lib.hid (fun B W h => part0 B x W h)
  have HP1 := Lib.hid (fun B W h => part1 B x W h)
  have HP2 := Lib.hid (fun B W h => part2 B x W h)
  have HNB : Hid (∀ W : World, NB (W.alloc (.cells #[.int .i64 (x 0), .int .i64 (x 1), .int .i64 (x 2), .int .i64 (x 3), .int .i64 (x 4), .int .i64 (x 5), .int .i64 (x 6), .int .i64 (x 7), .int .i64 (x 8), .int .i64 0, .int .i64 0, .int .i64 0] 211)) W.heap.size x) := Lib.hid fun W => heap_alloc_new W _
  have HSI : Hid (∀ W : World, Calls Try.prog 127 #[.int .u64 key, .slice (some ⟨W.heap.size, 0, none⟩) 3 3] (W.alloc (.cells #[.int .i64 (x 0), .int .i64 (x 1), .int .i64 (x 2), .int .i64 (x 3), .int .i64 (x 4), .int .i64 (x 5), .int .i64 (x 6), .int .i64 (x 7), .int .i64 (x 8), .int .i64 0, .int .i64 0, .int .i64 0] 210)) fun e w' => e = .returned (.int .u64 (sgn key x)) ∧ Below W.heap.size W w') := Lib.hid fun W => by
    have := sign_any key W.heap.size (fun j => if j < 9 then x j else 0) (W.alloc (.cells #[.int .i64 (x 0), .int .i64 (x 1), .int .i64 (x 2), .int .i64 (x 3), .int .i64 (x 4), .int .i64 (x 5), .int .i64 (x 6), .int .i64 (x 7), .int .i64 (x 8), .int .i64 0, .int .i64 0, .int .i64 0] 210)) (by simp) (fun j hj => by
      rw [cell_of_row _ W.heap.size _ _ _ (0, 0) (heap_alloc_new W _)]
      have : j = 0 ∨ j = 1 ∨ j = 2 ∨ j = 3 ∨ j = 4 ∨ j = 5 ∨ j = 6 ∨ j = 7 ∨ j = 8 ∨ j = 9 ∨ j = 10 ∨ j = 11 := by omega
      rcases this with rfl | rfl | rfl | rfl | rfl | rfl | rfl | rfl | rfl | rfl | rfl | rfl <;> rfl)
    rw [sgs_sgn] at this
    exact this.mono fun e w' h => ⟨h.1, bel_step (bel_alloc (Below.refl _ _) _) h.2⟩
  obtain ⟨sg, hsg⟩ : ∃ sg, sgn key x = sg := ⟨_, rfl⟩
  rw [hsg] at HSI ⊢
  clear hsg
  go_enter Try.func102, Try.ntmps102
  go_wp2_with (first
    | (go_at_call 125; with_reducible refine (HNU.out _).mono ?_; rintro e w1 ⟨rfl, h1⟩
       have H1 := Lib.hid (bel_step (bel_alloc (Below.refl _ _) _) h1)
       have N1 := HNB.out w1
       have H1' := Lib.hid (bel_alloc H1.out (.cells #[.int .i64 (x 0), .int .i64 (x 1), .int .i64 (x 2), .int .i64 (x 3), .int .i64 (x 4), .int .i64 (x 5), .int .i64 (x 6), .int .i64 (x 7), .int .i64 (x 8), .int .i64 0, .int .i64 0, .int .i64 0] 211))
       have N1 := Lib.hid N1)
    | (go_at_call 126; with_reducible refine (HP0.out _ _ N1.out).mono ?_; rintro e w2 ⟨rfl, h2⟩
       have H2 := Lib.hid (bel_step H1'.out h2)
       have N2 := Lib.hid (N1.out.keep h2))
    | (go_at_call 126; with_reducible refine (HP1.out _ _ N2.out).mono ?_; rintro e w3 ⟨rfl, h3⟩
       have H3 := Lib.hid (bel_step H2.out h3)
       have N3 := Lib.hid (N2.out.keep h3))
    | (go_at_call 126; with_reducible refine (HP2.out _ _ N3.out).mono ?_; rintro e w4 ⟨rfl, h4⟩
       have H4 := Lib.hid (bel_step H3.out h4))
    | (go_at_call 127; with_reducible refine (HSI.out _).mono ?_; rintro e w5 ⟨rfl, h5⟩
       have H5 := Lib.hid (bel_step H4.out h5)))
  all_goals (try (exfalso; omega))
  go_ret
  exact ⟨rfl, H5.out⟩
end Go.Proofs.Ytkhmlbkkdflnoaa.Rc
