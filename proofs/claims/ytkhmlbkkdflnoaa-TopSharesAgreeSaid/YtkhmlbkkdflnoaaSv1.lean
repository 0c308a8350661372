/-
  package site: the parts of Valid, true of what the reference takes for valid.
-/
import Derived.Test.YtkhmlbkkdflnoaaRva
namespace Go.Proofs.Ytkhmlbkkdflnoaa.Nm
open Go.RowKit Go.Proofs.Ytkhmlbkkdflnoaa Go
set_option linter.unusedVariables false
attribute [local go_sem ↓] Go.wp_at_zero Go.wp_at_succ

/-- the world that stands gets a name -/
theorem nameW {P : World → Prop} {W : World} (h : ∀ x, W = x → P x) : P W := h W rfl
theorem holds_yes (l h n : Int) (w : World) (h1 : l ≤ n) (h2 : n ≤ h) : Calls Try.prog 137 #[.agg #[.int .i64 l, .int .i64 h], .int .i64 n] w fun e w' => e = .returned (.bool true) ∧ Below w.heap.size w w' := by
  have HB : Hid (∀ o, Below w.heap.size w (w.alloc o)) := Lib.hid fun o => (Below.refl _ _).alloc (Nat.le_refl _) o
  go_enter Try.func137, Try.ntmps137
  go_wp2
  all_goals (try (exfalso; omega))
  go_ret
  exact ⟨rfl, HB.out _⟩
theorem goodCable_yes (a m g o d : Int) (w : World) (h : a < m) : Calls Try.prog 148 #[.agg #[.int .i64 a, .int .i64 m, .int .i64 g, .int .i64 o, .int .i64 d]] w fun e w' => e = .returned (.bool true) ∧ Below w.heap.size w w' := by
  have HB : Hid (∀ o, Below w.heap.size w (w.alloc o)) := Lib.hid fun o => (Below.refl _ _).alloc (Nat.le_refl _) o
  go_enter Try.func148, Try.ntmps148
  go_wp2
  all_goals (try (exfalso; omega))
  go_ret
  exact ⟨rfl, HB.out _⟩
theorem goodAmps_yes (s : ByteArray) (z : Nat → Int) (w : World) (hz : ChP z) : Calls Try.prog 149 #[.agg #[.string s, .int .i64 (z 1), .int .i64 (z 2), .int .i64 (z 3), .int .i64 (z 4), .int .i64 (z 5), .int .i64 (z 6), .int .i64 (z 7)]] w fun e w' => e = .returned (.bool true) ∧ Below w.heap.size w w' := by
  have HB : Hid (∀ o, Below w.heap.size w (w.alloc o)) := Lib.hid fun o => (Below.refl _ _).alloc (Nat.le_refl _) o
  obtain ⟨⟨h1, h2⟩, ⟨h3, h4⟩, ⟨h5, h6⟩, ⟨h7, h8⟩, h9⟩ := hz
  have h10 : z 3 ≤ z 4 := by omega
  by_cases h : z 6 = 0
  · go_enter Try.func149, Try.ntmps149
    go_wp2
    all_goals (try (exfalso; omega))
    all_goals (go_ret; exact ⟨rfl, HB.out _⟩)
  · have h11 : z 3 ≤ z 6 := by omega
    have h12 : z 6 ≤ z 4 := by omega
    clear h9
    go_enter Try.func149, Try.ntmps149
    go_wp2
    all_goals (try (exfalso; omega))
    all_goals (go_ret; exact ⟨rfl, HB.out _⟩)
set_option maxHeartbeats 4000000 in
theorem vcon_yes (s : ByteArray) (i u l n f h a m g o d : Int) (w : World) (hi0 : 0 ≤ i) (hi1 : i ≤ 1000) (k1 : 1 ≤ l) (k2 : l ≤ 1000) (k3 : 1 ≤ n) (k4 : n ≤ 1000) (k5 : i = 0 → u = -1) (k6 : 0 < i → 0 ≤ u ∧ u ≤ i - 1)
    (k7 : (f = 0 ∧ h = 0) ∨ ((1 ≤ f ∧ f ≤ 1000) ∧ 0 ≤ h ∧ h ≤ 1000000))
    (k8 : (a = 0 ∧ m = 0 ∧ g = 0 ∧ o = 0 ∧ d = 0) ∨ ((0 ≤ a ∧ a ≤ 200000) ∧ (a + 1 ≤ m ∧ m ≤ 200000) ∧ (0 ≤ g ∧ g ≤ 1000) ∧ (0 ≤ o ∧ o ≤ 1000) ∧ 1 ≤ d ∧ d ≤ 1000000)) :
    Calls Try.prog 136 #[.agg #[.string s, .int .i64 u, .int .i64 l, .int .i64 n, .int .i64 f, .int .i64 h, .int .i64 a, .int .i64 m, .int .i64 g, .int .i64 o, .int .i64 d], .int .i64 i] w fun e w' => e = .returned (.bool true) ∧ Below w.heap.size w w' := by
  have HI : Hid ((i = 0 → u = -1) ∧ (0 < i → 0 ≤ u ∧ u ≤ i - 1)) := Lib.hid ⟨k5, k6⟩
  have HF := Lib.hid k7
  have HC := Lib.hid k8
  clear k5 k6 k7 k8
  go_enter Try.func136, Try.ntmps136
  go_upto_region 4 with fail
  all_goals (try (exfalso; have := HI.out; omega))
  all_goals (
    refine nameW ?_
    intro wz hwz
    have HZ : Hid (Below w.heap.size w wz) := Lib.hid (by rw [← hwz]; exact bel_alloc (bel_alloc (Below.refl _ _) _) _)
    have HK : Hid (∀ W, Below wz.heap.size wz W → W.cell? ⟨w.heap.size, 2, none⟩ = some (.int .i64 l) ∧ W.cell? ⟨w.heap.size, 3, none⟩ = some (.int .i64 n) ∧ W.cell? ⟨w.heap.size, 4, none⟩ = some (.int .i64 f) ∧ W.cell? ⟨w.heap.size, 5, none⟩ = some (.int .i64 h) ∧ W.cell? ⟨w.heap.size, 6, none⟩ = some (.int .i64 a) ∧ W.cell? ⟨w.heap.size, 7, none⟩ = some (.int .i64 m) ∧ W.cell? ⟨w.heap.size, 8, none⟩ = some (.int .i64 g) ∧ W.cell? ⟨w.heap.size, 9, none⟩ = some (.int .i64 o) ∧ W.cell? ⟨w.heap.size, 10, none⟩ = some (.int .i64 d) ∧ W.cell? ⟨w.heap.size + 1, 0, none⟩ = some (.int .i64 1) ∧ W.cell? ⟨w.heap.size + 1, 1, none⟩ = some (.int .i64 1000)) := Lib.hid fun W hW => by
      refine ⟨?_, ?_, ?_, ?_, ?_, ?_, ?_, ?_, ?_, ?_, ?_⟩ <;> (refine old_at ?_ hW; rw [← hwz]; simp)
    have HT : Hid (∀ W W', Below wz.heap.size wz W → Below W.heap.size W W' → Below wz.heap.size wz W') := Lib.hid fun W W' a b => a.trans (b.mono a.size)
    have HB0 : Hid (Below wz.heap.size wz wz) := Lib.hid (Below.refl _ _)
    clear hwz
    obtain ⟨x2, x3, x4, x5, x6, x7, x8, x9, x10, y0, y1⟩ := HK.out wz HB0.out
    go_upto_region 6 with (go_at_call 137; refine (holds_yes _ _ _ _ (by omega) (by omega)).mono ?_; rintro e w1 ⟨rfl, hb1⟩; have HB1 := Lib.hid (HT.out _ _ (by with_reducible exact Hid.out (by assumption)) hb1); clear hb1 x2 x3 x4 x5 x6 x7 x8 x9 x10 y0 y1; obtain ⟨x2, x3, x4, x5, x6, x7, x8, x9, x10, y0, y1⟩ := HK.out w1 HB1.out)
    have hsz : w.heap.size + 1 < w1.heap.size := World.block_lt_of_cell? w1 ⟨w.heap.size + 1, 0, none⟩ y0
    have hsa : w.heap.size < w1.heap.size := by omega
    go_region
    all_goals (
      refine nameW ?_
      intro wy hwy
      have HW1 : Hid (Below w1.heap.size w1 wy) := Lib.hid (by
        rw [← hwy]
        repeat (first | with_reducible exact Below.refl _ _ | with_reducible refine Below.drew ?_ | with_reducible refine Below.alloc ?_ (Nat.le_refl _) _ | with_reducible refine Below.alloc ?_ (by simp) _))
      have HZY : Hid (∀ W, Below wy.heap.size wy W → Below w.heap.size w W) := Lib.hid fun W hW => by
        have h1 : Below wz.heap.size wz wy := HB1.out.trans (HW1.out.mono HB1.out.size)
        exact (HZ.out.trans (h1.mono HZ.out.size)).trans (hW.mono ((HZ.out.trans (h1.mono HZ.out.size)).size)))
    · skip
      have hk2 : wy.cell? ⟨w1.heap.size, 0, none⟩ = some (.int .i64 f) ∧ wy.cell? ⟨w1.heap.size, 1, none⟩ = some (.int .i64 h) ∧ wy.cell? ⟨(w1.heap.size + 1), 0, none⟩ = some (.int .i64 a) ∧ wy.cell? ⟨(w1.heap.size + 1), 1, none⟩ = some (.int .i64 m) ∧ wy.cell? ⟨(w1.heap.size + 1), 2, none⟩ = some (.int .i64 g) ∧ wy.cell? ⟨(w1.heap.size + 1), 3, none⟩ = some (.int .i64 o) ∧ wy.cell? ⟨(w1.heap.size + 1), 4, none⟩ = some (.int .i64 d) ∧ wy.cell? ⟨(w.heap.size + 1), 0, none⟩ = some (.int .i64 1) ∧ wy.cell? ⟨(w.heap.size + 1), 1, none⟩ = some (.int .i64 1000) := by
        refine ⟨?_, ?_, ?_, ?_, ?_, ?_, ?_, ?_, ?_⟩ <;> (first | exact old_at y0 HW1.out | exact old_at y1 HW1.out | (rw [← hwy]; simp; done))
      have HK2 : Hid (∀ W, Below wy.heap.size wy W → W.cell? ⟨w1.heap.size, 0, none⟩ = some (.int .i64 f) ∧ W.cell? ⟨w1.heap.size, 1, none⟩ = some (.int .i64 h) ∧ W.cell? ⟨(w1.heap.size + 1), 0, none⟩ = some (.int .i64 a) ∧ W.cell? ⟨(w1.heap.size + 1), 1, none⟩ = some (.int .i64 m) ∧ W.cell? ⟨(w1.heap.size + 1), 2, none⟩ = some (.int .i64 g) ∧ W.cell? ⟨(w1.heap.size + 1), 3, none⟩ = some (.int .i64 o) ∧ W.cell? ⟨(w1.heap.size + 1), 4, none⟩ = some (.int .i64 d) ∧ W.cell? ⟨(w.heap.size + 1), 0, none⟩ = some (.int .i64 1) ∧ W.cell? ⟨(w.heap.size + 1), 1, none⟩ = some (.int .i64 1000)) := Lib.hid fun W hW => by
        obtain ⟨g0, g1, g2, g3, g4, g5, g6, g7, g8⟩ := hk2
        exact ⟨old_at g0 hW, old_at g1 hW, old_at g2 hW, old_at g3 hW, old_at g4 hW, old_at g5 hW, old_at g6 hW, old_at g7 hW, old_at g8 hW⟩
      have HT2 : Hid (∀ W W', Below wy.heap.size wy W → Below W.heap.size W W' → Below wy.heap.size wy W') := Lib.hid fun W W' a b => a.trans (b.mono a.size)
      have HB2 : Hid (Below wy.heap.size wy wy) := Lib.hid (Below.refl _ _)
      clear hwy hk2 y0 y1 x2 x3 x4 x5 x6 x7 x8 x9 x10 hsz hsa HK HT HB0
      obtain ⟨f0, f1, c0, c1, c2, c3, c4, y0, y1⟩ := HK2.out wy HB2.out
      rcases HF.out with ⟨rfl, rfl⟩ | ⟨⟨q1, q2⟩, q3, q4⟩
      all_goals (
        go_upto_region 9 with (go_at_call 137; refine (holds_yes _ _ _ _ (by omega) (by omega)).mono ?_; rintro e w3 ⟨rfl, hb1⟩; have HB3 := Lib.hid (HT2.out _ _ (by with_reducible exact Hid.out (by assumption)) hb1); clear hb1 f0 f1 c0 c1 c2 c3 c4 y0 y1; obtain ⟨f0, f1, c0, c1, c2, c3, c4, y0, y1⟩ := HK2.out w3 HB3.out)
        all_goals (try (exfalso; omega))
        refine nameW ?_
        intro w2 hw2
        have HB4 : Hid (Below wy.heap.size wy w2) := by rw [← hw2]; with_reducible assumption
        clear hw2 f0 f1 c0 c1 c2 c3 c4 y0 y1
        obtain ⟨f0, f1, c0, c1, c2, c3, c4, y0, y1⟩ := HK2.out w2 HB4.out
        rcases HC.out with ⟨rfl, rfl, rfl, rfl, rfl⟩ | ⟨⟨r1, r2⟩, ⟨r3, r4⟩, ⟨r5, r6⟩, ⟨r7, r8⟩, r9, r10⟩
        · go_wp2_with fail
          all_goals (try (exfalso; omega))
          go_ret
          exact ⟨rfl, HZY.out _ HB4.out⟩
        · have am : a < m := by omega
          go_upto_region 12 with fail
          all_goals (try (exfalso; omega))
          refine nameW ?_
          intro w4 hw4
          have HB24 : Hid (Below w2.heap.size w2 w4) := Lib.hid (by rw [← hw4]; exact bel_alloc (bel_alloc (Below.refl _ _) _) _)
          have hk3 : w4.cell? ⟨(w1.heap.size + 1), 0, none⟩ = some (.int .i64 a) ∧ w4.cell? ⟨(w1.heap.size + 1), 1, none⟩ = some (.int .i64 m) ∧ w4.cell? ⟨(w1.heap.size + 1), 2, none⟩ = some (.int .i64 g) ∧ w4.cell? ⟨(w1.heap.size + 1), 3, none⟩ = some (.int .i64 o) ∧ w4.cell? ⟨(w1.heap.size + 1), 4, none⟩ = some (.int .i64 d) ∧ w4.cell? ⟨w2.heap.size, 0, none⟩ = some (.int .i64 0) ∧ w4.cell? ⟨w2.heap.size, 1, none⟩ = some (.int .i64 200000) ∧ w4.cell? ⟨(w2.heap.size + 1), 0, none⟩ = some (.int .i64 0) ∧ w4.cell? ⟨(w2.heap.size + 1), 1, none⟩ = some (.int .i64 1000) := by
            refine ⟨?_, ?_, ?_, ?_, ?_, ?_, ?_, ?_, ?_⟩ <;> (first | exact old_at c0 HB24.out | exact old_at c1 HB24.out | exact old_at c2 HB24.out | exact old_at c3 HB24.out | exact old_at c4 HB24.out | (rw [← hw4]; simp; done))
          have HK3 : Hid (∀ W, Below w4.heap.size w4 W → W.cell? ⟨(w1.heap.size + 1), 0, none⟩ = some (.int .i64 a) ∧ W.cell? ⟨(w1.heap.size + 1), 1, none⟩ = some (.int .i64 m) ∧ W.cell? ⟨(w1.heap.size + 1), 2, none⟩ = some (.int .i64 g) ∧ W.cell? ⟨(w1.heap.size + 1), 3, none⟩ = some (.int .i64 o) ∧ W.cell? ⟨(w1.heap.size + 1), 4, none⟩ = some (.int .i64 d) ∧ W.cell? ⟨w2.heap.size, 0, none⟩ = some (.int .i64 0) ∧ W.cell? ⟨w2.heap.size, 1, none⟩ = some (.int .i64 200000) ∧ W.cell? ⟨(w2.heap.size + 1), 0, none⟩ = some (.int .i64 0) ∧ W.cell? ⟨(w2.heap.size + 1), 1, none⟩ = some (.int .i64 1000)) := Lib.hid fun W hW => by
            obtain ⟨g0, g1, g2, g3, g4, g5, g6, g7, g8⟩ := hk3
            exact ⟨old_at g0 hW, old_at g1 hW, old_at g2 hW, old_at g3 hW, old_at g4 hW, old_at g5 hW, old_at g6 hW, old_at g7 hW, old_at g8 hW⟩
          have HT3 : Hid (∀ W W', Below w4.heap.size w4 W → Below W.heap.size W W' → Below w4.heap.size w4 W') := Lib.hid fun W W' a b => a.trans (b.mono a.size)
          have HB5 : Hid (Below w4.heap.size w4 w4) := Lib.hid (Below.refl _ _)
          have HZ4 : Hid (∀ W, Below w4.heap.size w4 W → Below w.heap.size w W) := Lib.hid fun W hW => by
            have h1 : Below wy.heap.size wy w4 := HB4.out.trans (HB24.out.mono HB4.out.size)
            exact HZY.out W (h1.trans (hW.mono h1.size))
          clear hk3 hw4 f0 f1 c0 c1 c2 c3 c4 y0 y1 HK2 HT2 HB24
          obtain ⟨c0, c1, c2, c3, c4, t0, t1, s0, s1⟩ := HK3.out w4 HB5.out
          go_wp2_with (first | (go_at_call 137; refine (holds_yes _ _ _ _ (by omega) (by omega)).mono ?_; rintro e w5 ⟨rfl, hb1⟩; have HB5 := Lib.hid (HT3.out _ _ (by with_reducible exact Hid.out (by assumption)) hb1); clear hb1 c0 c1 c2 c3 c4 t0 t1 s0 s1; obtain ⟨c0, c1, c2, c3, c4, t0, t1, s0, s1⟩ := HK3.out w5 HB5.out) | (go_at_call 148; refine (goodCable_yes _ _ _ _ _ _ (by omega)).mono ?_; rintro e w6 ⟨rfl, hb6⟩))
          all_goals (try (exfalso; omega))
          go_ret
          exact ⟨rfl, HZ4.out _ (HT3.out _ _ HB5.out hb6)⟩)
    · skip
      have hk2 : wy.cell? ⟨(w1.heap.size + 1), 0, none⟩ = some (.int .i64 f) ∧ wy.cell? ⟨(w1.heap.size + 1), 1, none⟩ = some (.int .i64 h) ∧ wy.cell? ⟨w1.heap.size, 0, none⟩ = some (.int .i64 a) ∧ wy.cell? ⟨w1.heap.size, 1, none⟩ = some (.int .i64 m) ∧ wy.cell? ⟨w1.heap.size, 2, none⟩ = some (.int .i64 g) ∧ wy.cell? ⟨w1.heap.size, 3, none⟩ = some (.int .i64 o) ∧ wy.cell? ⟨w1.heap.size, 4, none⟩ = some (.int .i64 d) ∧ wy.cell? ⟨(w.heap.size + 1), 0, none⟩ = some (.int .i64 1) ∧ wy.cell? ⟨(w.heap.size + 1), 1, none⟩ = some (.int .i64 1000) := by
        refine ⟨?_, ?_, ?_, ?_, ?_, ?_, ?_, ?_, ?_⟩ <;> (first | exact old_at y0 HW1.out | exact old_at y1 HW1.out | (rw [← hwy]; simp; done))
      have HK2 : Hid (∀ W, Below wy.heap.size wy W → W.cell? ⟨(w1.heap.size + 1), 0, none⟩ = some (.int .i64 f) ∧ W.cell? ⟨(w1.heap.size + 1), 1, none⟩ = some (.int .i64 h) ∧ W.cell? ⟨w1.heap.size, 0, none⟩ = some (.int .i64 a) ∧ W.cell? ⟨w1.heap.size, 1, none⟩ = some (.int .i64 m) ∧ W.cell? ⟨w1.heap.size, 2, none⟩ = some (.int .i64 g) ∧ W.cell? ⟨w1.heap.size, 3, none⟩ = some (.int .i64 o) ∧ W.cell? ⟨w1.heap.size, 4, none⟩ = some (.int .i64 d) ∧ W.cell? ⟨(w.heap.size + 1), 0, none⟩ = some (.int .i64 1) ∧ W.cell? ⟨(w.heap.size + 1), 1, none⟩ = some (.int .i64 1000)) := Lib.hid fun W hW => by
        obtain ⟨g0, g1, g2, g3, g4, g5, g6, g7, g8⟩ := hk2
        exact ⟨old_at g0 hW, old_at g1 hW, old_at g2 hW, old_at g3 hW, old_at g4 hW, old_at g5 hW, old_at g6 hW, old_at g7 hW, old_at g8 hW⟩
      have HT2 : Hid (∀ W W', Below wy.heap.size wy W → Below W.heap.size W W' → Below wy.heap.size wy W') := Lib.hid fun W W' a b => a.trans (b.mono a.size)
      have HB2 : Hid (Below wy.heap.size wy wy) := Lib.hid (Below.refl _ _)
      clear hwy hk2 y0 y1 x2 x3 x4 x5 x6 x7 x8 x9 x10 hsz hsa HK HT HB0
      obtain ⟨f0, f1, c0, c1, c2, c3, c4, y0, y1⟩ := HK2.out wy HB2.out
      rcases HF.out with ⟨rfl, rfl⟩ | ⟨⟨q1, q2⟩, q3, q4⟩
      all_goals (
        go_upto_region 9 with (go_at_call 137; refine (holds_yes _ _ _ _ (by omega) (by omega)).mono ?_; rintro e w3 ⟨rfl, hb1⟩; have HB3 := Lib.hid (HT2.out _ _ (by with_reducible exact Hid.out (by assumption)) hb1); clear hb1 f0 f1 c0 c1 c2 c3 c4 y0 y1; obtain ⟨f0, f1, c0, c1, c2, c3, c4, y0, y1⟩ := HK2.out w3 HB3.out)
        all_goals (try (exfalso; omega))
        refine nameW ?_
        intro w2 hw2
        have HB4 : Hid (Below wy.heap.size wy w2) := by rw [← hw2]; with_reducible assumption
        clear hw2 f0 f1 c0 c1 c2 c3 c4 y0 y1
        obtain ⟨f0, f1, c0, c1, c2, c3, c4, y0, y1⟩ := HK2.out w2 HB4.out
        rcases HC.out with ⟨rfl, rfl, rfl, rfl, rfl⟩ | ⟨⟨r1, r2⟩, ⟨r3, r4⟩, ⟨r5, r6⟩, ⟨r7, r8⟩, r9, r10⟩
        · go_wp2_with fail
          all_goals (try (exfalso; omega))
          go_ret
          exact ⟨rfl, HZY.out _ HB4.out⟩
        · have am : a < m := by omega
          go_upto_region 12 with fail
          all_goals (try (exfalso; omega))
          refine nameW ?_
          intro w4 hw4
          have HB24 : Hid (Below w2.heap.size w2 w4) := Lib.hid (by rw [← hw4]; exact bel_alloc (bel_alloc (Below.refl _ _) _) _)
          have hk3 : w4.cell? ⟨w1.heap.size, 0, none⟩ = some (.int .i64 a) ∧ w4.cell? ⟨w1.heap.size, 1, none⟩ = some (.int .i64 m) ∧ w4.cell? ⟨w1.heap.size, 2, none⟩ = some (.int .i64 g) ∧ w4.cell? ⟨w1.heap.size, 3, none⟩ = some (.int .i64 o) ∧ w4.cell? ⟨w1.heap.size, 4, none⟩ = some (.int .i64 d) ∧ w4.cell? ⟨w2.heap.size, 0, none⟩ = some (.int .i64 0) ∧ w4.cell? ⟨w2.heap.size, 1, none⟩ = some (.int .i64 200000) ∧ w4.cell? ⟨(w2.heap.size + 1), 0, none⟩ = some (.int .i64 0) ∧ w4.cell? ⟨(w2.heap.size + 1), 1, none⟩ = some (.int .i64 1000) := by
            refine ⟨?_, ?_, ?_, ?_, ?_, ?_, ?_, ?_, ?_⟩ <;> (first | exact old_at c0 HB24.out | exact old_at c1 HB24.out | exact old_at c2 HB24.out | exact old_at c3 HB24.out | exact old_at c4 HB24.out | (rw [← hw4]; simp; done))
          have HK3 : Hid (∀ W, Below w4.heap.size w4 W → W.cell? ⟨w1.heap.size, 0, none⟩ = some (.int .i64 a) ∧ W.cell? ⟨w1.heap.size, 1, none⟩ = some (.int .i64 m) ∧ W.cell? ⟨w1.heap.size, 2, none⟩ = some (.int .i64 g) ∧ W.cell? ⟨w1.heap.size, 3, none⟩ = some (.int .i64 o) ∧ W.cell? ⟨w1.heap.size, 4, none⟩ = some (.int .i64 d) ∧ W.cell? ⟨w2.heap.size, 0, none⟩ = some (.int .i64 0) ∧ W.cell? ⟨w2.heap.size, 1, none⟩ = some (.int .i64 200000) ∧ W.cell? ⟨(w2.heap.size + 1), 0, none⟩ = some (.int .i64 0) ∧ W.cell? ⟨(w2.heap.size + 1), 1, none⟩ = some (.int .i64 1000)) := Lib.hid fun W hW => by
            obtain ⟨g0, g1, g2, g3, g4, g5, g6, g7, g8⟩ := hk3
            exact ⟨old_at g0 hW, old_at g1 hW, old_at g2 hW, old_at g3 hW, old_at g4 hW, old_at g5 hW, old_at g6 hW, old_at g7 hW, old_at g8 hW⟩
          have HT3 : Hid (∀ W W', Below w4.heap.size w4 W → Below W.heap.size W W' → Below w4.heap.size w4 W') := Lib.hid fun W W' a b => a.trans (b.mono a.size)
          have HB5 : Hid (Below w4.heap.size w4 w4) := Lib.hid (Below.refl _ _)
          have HZ4 : Hid (∀ W, Below w4.heap.size w4 W → Below w.heap.size w W) := Lib.hid fun W hW => by
            have h1 : Below wy.heap.size wy w4 := HB4.out.trans (HB24.out.mono HB4.out.size)
            exact HZY.out W (h1.trans (hW.mono h1.size))
          clear hk3 hw4 f0 f1 c0 c1 c2 c3 c4 y0 y1 HK2 HT2 HB24
          obtain ⟨c0, c1, c2, c3, c4, t0, t1, s0, s1⟩ := HK3.out w4 HB5.out
          go_wp2_with (first | (go_at_call 137; refine (holds_yes _ _ _ _ (by omega) (by omega)).mono ?_; rintro e w5 ⟨rfl, hb1⟩; have HB5 := Lib.hid (HT3.out _ _ (by with_reducible exact Hid.out (by assumption)) hb1); clear hb1 c0 c1 c2 c3 c4 t0 t1 s0 s1; obtain ⟨c0, c1, c2, c3, c4, t0, t1, s0, s1⟩ := HK3.out w5 HB5.out) | (go_at_call 148; refine (goodCable_yes _ _ _ _ _ _ (by omega)).mono ?_; rintro e w6 ⟨rfl, hb6⟩))
          all_goals (try (exfalso; omega))
          go_ret
          exact ⟨rfl, HZ4.out _ (HT3.out _ _ HB5.out hb6)⟩))
end Go.Proofs.Ytkhmlbkkdflnoaa.Nm
