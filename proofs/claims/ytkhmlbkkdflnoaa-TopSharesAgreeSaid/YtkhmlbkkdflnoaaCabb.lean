/-
  package cable: Permitted.
-/
import Derived.Test.YtkhmlbkkdflnoaaCab
namespace Go.Proofs.Ytkhmlbkkdflnoaa.Nm
open Go.RowKit Go.Proofs.Ytkhmlbkkdflnoaa Go
set_option linter.unusedVariables false
attribute [local go_sem ↓] Go.wp_at_zero Go.wp_at_succ

/-- a cable that the reference takes for valid -/
def CabP (a m g o d : Int) : Prop := (a = 0 ∧ m = 0 ∧ g = 0 ∧ o = 0 ∧ d = 0) ∨ ((0 ≤ a ∧ a ≤ 200000) ∧ (a + 1 ≤ m ∧ m ≤ 200000) ∧ (0 ≤ g ∧ g ≤ 1000) ∧ (0 ≤ o ∧ o ≤ 1000) ∧ 1 ≤ d ∧ d ≤ 1000000)
/-- what the cable permits -/
def pmt (a m g o d : Int) : Int := if d = 0 then 1000 else bis (perP g (min o d * (m - a))) 1001 0 1000
set_option maxHeartbeats 4000000 in
theorem permitted_any (a m g o d : Int) (w : World) (hC : CabP a m g o d) :
    Calls Try.prog 118 #[.agg #[.int .i64 a, .int .i64 m, .int .i64 g, .int .i64 o, .int .i64 d]] w fun e w' => e = .returned (.tuple #[.int .i64 (pmt a m g o d), .int .i64 0]) ∧ (0 ≤ pmt a m g o d ∧ pmt a m g o d ≤ 1000) ∧ Below w.heap.size w w' := by
  have hmf : ∀ (fn : Fn) (first cap : Array Value) (w : World), (Instr.makeFunc fn first cap).run Try.prog w = .ok (.func fn first cap) w := fun _ _ _ _ => rfl
  rcases hC with ⟨rfl, rfl, rfl, rfl, rfl⟩ | ⟨⟨r1, r2⟩, ⟨r3, r4⟩, ⟨r5, r6⟩, ⟨r7, r8⟩, r9, r10⟩
  · have hp : pmt 0 0 0 0 0 = 1000 := by simp [pmt]
    rw [hp]
    go_enter Try.func118, Try.ntmps118
    go_upto_region 1 with fail
    refine nameW ?_
    intro W0 hW0
    have HB0 : Hid (Below w.heap.size w W0) := Lib.hid (by rw [← hW0]; exact bel_alloc (Below.refl _ _) _)
    have HC0 : Hid (W0.cell? ⟨w.heap.size, 0, none⟩ = some (.int .i64 0) ∧ W0.cell? ⟨w.heap.size, 1, none⟩ = some (.int .i64 0) ∧ W0.cell? ⟨w.heap.size, 2, none⟩ = some (.int .i64 0) ∧ W0.cell? ⟨w.heap.size, 3, none⟩ = some (.int .i64 0) ∧ W0.cell? ⟨w.heap.size, 4, none⟩ = some (.int .i64 0)) := Lib.hid (by
      refine ⟨?_, ?_, ?_, ?_, ?_⟩ <;> (rw [← hW0]; simp))
    clear hW0
    obtain ⟨d0, d1, d2, d3, d4⟩ := HC0.out
    go_upto_region 3 with (go_at_call 140; with_reducible refine (cval_zero _).mono ?_; rintro e W1 ⟨rfl, hb1⟩)
    have c0 := old_at d0 hb1
    have c1 := old_at d1 hb1
    have c2 := old_at d2 hb1
    have c3 := old_at d3 hb1
    have c4 := old_at d4 hb1
    have HB1 := Lib.hid (HB0.out.trans (hb1.mono HB0.out.size))
    clear d0 d1 d2 d3 d4 hb1
    go_upto_region 4 with fail
    refine nameW ?_
    intro W2 hW2
    have HB2 : Hid (Below w.heap.size w W2) := Lib.hid (HB1.out.trans (Below.mono (by rw [← hW2]; exact bel_alloc (bel_alloc (Below.refl _ _) _) _) HB1.out.size))
    have x0 : W2.cell? ⟨W1.heap.size, 0, none⟩ = some (.int .i64 0) := by rw [← hW2]; simp
    have x1 : W2.cell? ⟨W1.heap.size, 1, none⟩ = some (.int .i64 0) := by rw [← hW2]; simp
    have x2 : W2.cell? ⟨W1.heap.size, 2, none⟩ = some (.int .i64 0) := by rw [← hW2]; simp
    have x3 : W2.cell? ⟨W1.heap.size, 3, none⟩ = some (.int .i64 0) := by rw [← hW2]; simp
    have x4 : W2.cell? ⟨W1.heap.size, 4, none⟩ = some (.int .i64 0) := by rw [← hW2]; simp
    have y4 : W2.cell? ⟨W1.heap.size + 1, 0, none⟩ = some (.pointer (some ⟨W1.heap.size, 0, none⟩)) := by rw [← hW2]; simp
    clear hW2 c0 c1 c2 c3 c4
    go_wp2_with (go_at_call 141; with_reducible refine (none_yes _ _ x0 x1 x2 x3 x4).mono ?_; rintro e w1 ⟨rfl, hw⟩; obtain rfl := hw.symm)
    go_ret2
    exact ⟨rfl, by omega, HB2.out⟩
  · obtain ⟨room, hroom⟩ : ∃ x, min o d * (m - a) = x := ⟨_, rfl⟩
    obtain ⟨mi, hmi⟩ : ∃ x, min o d = x := ⟨_, rfl⟩
    have hp : pmt a m g o d = bis (perP g room) 1001 0 1000 := by rw [← hroom]; simp [pmt, show ¬ d = 0 by omega]
    rw [hp]
    rw [hmi] at hroom
    have hr1 : 0 ≤ room ∧ room ≤ 200000000 := by
      rw [← hroom]
      have h1 : 0 ≤ mi * (m - a) := Int.mul_nonneg (by omega) (by omega)
      have h2 : mi * (m - a) ≤ 1000 * 200000 := Int.mul_le_mul (by omega) (by omega) (by omega) (by omega)
      omega
    have u1 : IntKind.i64.wrap (m - a) = m - a := IntWalk.i64_in _ (by omega)
    have u2 : IntKind.i64.wrap (mi * (m - a)) = room := by rw [hroom]; exact IntWalk.i64_in _ (by omega)
    have HMI := Lib.hid hmi
    clear hroom hp hmi
    go_enter Try.func118, Try.ntmps118
    go_upto_region 1 with fail
    refine nameW ?_
    intro W0 hW0
    have HB0 : Hid (Below w.heap.size w W0) := Lib.hid (by rw [← hW0]; exact bel_alloc (Below.refl _ _) _)
    have HC0 : Hid (W0.cell? ⟨w.heap.size, 0, none⟩ = some (.int .i64 a) ∧ W0.cell? ⟨w.heap.size, 1, none⟩ = some (.int .i64 m) ∧ W0.cell? ⟨w.heap.size, 2, none⟩ = some (.int .i64 g) ∧ W0.cell? ⟨w.heap.size, 3, none⟩ = some (.int .i64 o) ∧ W0.cell? ⟨w.heap.size, 4, none⟩ = some (.int .i64 d)) := Lib.hid (by
      refine ⟨?_, ?_, ?_, ?_, ?_⟩ <;> (rw [← hW0]; simp))
    clear hW0
    obtain ⟨d0, d1, d2, d3, d4⟩ := HC0.out
    go_upto_region 3 with (go_at_call 140; with_reducible refine (cval_yes _ _ _ _ _ _ r1 r2 r3 r4 r5 r6 r7 r8 r9 r10).mono ?_; rintro e W1 ⟨rfl, hb1⟩)
    have c0 := old_at d0 hb1
    have c1 := old_at d1 hb1
    have c2 := old_at d2 hb1
    have c3 := old_at d3 hb1
    have c4 := old_at d4 hb1
    have HB1 := Lib.hid (HB0.out.trans (hb1.mono HB0.out.size))
    clear d0 d1 d2 d3 d4 hb1
    go_upto_region 4 with fail
    refine nameW ?_
    intro W2 hW2
    have HB2 : Hid (Below w.heap.size w W2) := Lib.hid (HB1.out.trans (Below.mono (by rw [← hW2]; exact bel_alloc (bel_alloc (Below.refl _ _) _) _) HB1.out.size))
    have x0 : W2.cell? ⟨W1.heap.size, 0, none⟩ = some (.int .i64 a) := by rw [← hW2]; simp
    have x1 : W2.cell? ⟨W1.heap.size, 1, none⟩ = some (.int .i64 m) := by rw [← hW2]; simp
    have x2 : W2.cell? ⟨W1.heap.size, 2, none⟩ = some (.int .i64 g) := by rw [← hW2]; simp
    have x3 : W2.cell? ⟨W1.heap.size, 3, none⟩ = some (.int .i64 o) := by rw [← hW2]; simp
    have x4 : W2.cell? ⟨W1.heap.size, 4, none⟩ = some (.int .i64 d) := by rw [← hW2]; simp
    have y4 : W2.cell? ⟨W1.heap.size + 1, 0, none⟩ = some (.pointer (some ⟨W1.heap.size, 0, none⟩)) := by rw [← hW2]; simp
    have hs2 : W1.heap.size + 1 < W2.heap.size := by rw [← hW2]; simp
    have hs1 : W1.heap.size < W2.heap.size := by omega
    clear hW2 c0 c1 c2 c3 c4
    go_upto_region 6 with (go_at_call 141; with_reducible refine (none_no _ _ _ _ _ _ _ r9 x0 x1 x2 x3 x4).mono ?_; rintro e w1 ⟨rfl, hw⟩; obtain rfl := hw.symm)
    have HLS : Hid (∀ W, Below W2.heap.size W2 W → Calls Try.prog 142 #[.pointer (some ⟨W1.heap.size, 0, none⟩)] W fun e w' => e = .returned (.int .i64 mi) ∧ w' = W.drew) := Lib.hid fun W hW => by
      have := loss_any W1.heap.size o d W (old_at x3 hW) (old_at x4 hW)
      rw [HMI.out] at this
      exact this
    go_region_held3 (fun W => W.cell? ⟨W1.heap.size + 1, 0, none⟩ = some (.pointer (some ⟨W1.heap.size, 0, none⟩)) ∧ W.cell? ⟨W1.heap.size, 0, none⟩ = some (.int .i64 a) ∧ W.cell? ⟨W1.heap.size, 1, none⟩ = some (.int .i64 m)) (go_keep)
      (first | (go_at_call 142; with_reducible refine (HLS.out _ (by repeat (first | with_reducible exact Below.refl _ _ | with_reducible apply Below.drew | with_reducible apply bel_alloc))).mono ?_; rintro e w3 ⟨rfl, rfl⟩))
    all_goals
      refine nameW ?_
      intro W3 hW3
      have hb23 : Below W2.heap.size W2 W3 := by rw [← hW3]; exact ((bel_alloc (Below.refl _ _) _).drew).drew
      have HB3 : Hid (Below w.heap.size w W3) := Lib.hid (HB2.out.trans (Below.mono hb23 HB2.out.size))
      have z0 : W3.cell? ⟨W1.heap.size + 1, 0, none⟩ = some (.pointer (some ⟨W1.heap.size, 0, none⟩)) := old_at y4 hb23
      have z1 : W3.cell? ⟨W2.heap.size, 0, none⟩ = some (.int .i64 room) := by rw [← hW3]; simp
      have z2 : W3.cell? ⟨W1.heap.size, 2, none⟩ = some (.int .i64 g) := old_at x2 hb23
      clear hW3 hb23 x0 x1 x2 x3 x4 y4
      have HG := Lib.hid (greatest_any (perP g room) (W1.heap.size + 1) W2.heap.size W3 (fun W a' hb h0 h1 => perm1_any g room a' _ _ W1.heap.size W r5 r6 h0 h1 (old_at z0 hb) (old_at z1 hb) (old_at z2 hb)))
      go_wp2_with (go_at_call 143; with_reducible refine HG.out.mono ?_; rintro e w4 ⟨rfl, hbd, hb4⟩)
      go_ret2
      exact ⟨rfl, hbd, HB3.out.trans (hb4.mono HB3.out.size)⟩
end Go.Proofs.Ytkhmlbkkdflnoaa.Nm
